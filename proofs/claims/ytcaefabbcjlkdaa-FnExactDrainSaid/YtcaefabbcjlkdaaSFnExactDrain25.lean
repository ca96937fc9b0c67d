/- Texts of the proof of FnExactDrain, joined. -/
import Derived.Test.YtcaefabbcjlkdaaSFnExactDrain24
import Derived.Deep.RegionHeld
import Derived.Test.YtcaefabbcjlkdaaSFnExactDrain22
namespace Go.Proofs.Ytcaefabbcjlkdaa.P
open Go Go.RowKit Go.Proofs.YtcaefabbcjlkdaaW.PrintWords Go.Proofs.YtcaefabbcjlkdaaW.PrintLast Go.Proofs.YtcaefabbcjlkdaaW.PrintMore
set_option linter.unusedVariables false
set_option linter.unusedSimpArgs false
def mkEvent (k : Int) (x : S56) : S56:=⟨k,k + 1,k + 2,⟨tm (k + 3),(k + 4) % 4294967296,tm (k + 5),k + 6,marks (k + 7) x.f3.f4.length⟩⟩
def offEvent (xs : List S56) : Nat → Int
 | 0 => 0
 | i + 1 => offEvent xs i + 7 + ((xs.getD i z56).f3.f4.length : Int)
def markEvents (q : Int) (xs : List S56) : List S56:=(List.range xs.length).map (fun i => mkEvent (q + offEvent xs i) (xs.getD i z56))
theorem markEvents_len (q : Int) (xs : List S56) : (markEvents q xs).length = xs.length:=by simp [markEvents]
theorem markEvents_get (q : Int) (xs : List S56) (i : Nat) (hi : i < xs.length) : (markEvents q xs)[i]? = some (mkEvent (q + offEvent xs i) (xs.getD i z56)):=by
 simp [markEvents,List.getElem?_range,hi]
theorem offEvent_nn (xs : List S56) : ∀ i,0 ≤ offEvent xs i:=by
 intro i
 induction i with
 | zero => exact Int.le_refl _
 | succ i ih => rw [offEvent];omega
theorem offEvent_mono (xs : List S56) (i d : Nat) : offEvent xs i ≤ offEvent xs (i + d):=by
 induction d with
 | zero => exact Int.le_refl _
 | succ d ih => rw [← Nat.add_assoc,offEvent];omega
theorem offEvent_le (xs : List S56) {i n : Nat} (h : i ≤ n) : offEvent xs i ≤ offEvent xs n:=by
 have:=offEvent_mono xs i (n - i)
 rwa [Nat.add_sub_cancel' h] at this
set_option maxRecDepth 100000 in
set_option maxHeartbeats 8000000 in
theorem markEvents_v (w0 w : World) (ok : Nat → Prop) (v : Value) (xs : List S56) (q : Int) (hB : Below w0.heap.size w0 w) (HS : Kd.S k56 56 w w0.heap.size ok v xs) (hq : 0 ≤ q) (hb : q + offEvent xs xs.length ≤ 50000000) (hl : xs.length ≤ 10000000) (hd : ∀ x ∈ xs,x.f3.f4.length ≤ 10000000) :
  Calls Try.prog 47 #[v, .int .i64 q] w fun e w' => e = .returned (.int .i64 (q + offEvent xs xs.length)) ∧ Kd.S k56 56 w' w0.heap.size ok v (markEvents q xs) ∧ Below w0.heap.size w0 w' ∧ Tch w w' ok:=by
 have HSV:=Lib.hid HS
 have HB:=Lib.hid hB
 have HQ:=Lib.hid hq
 have HBD:=Lib.hid hb
 have HL:=Lib.hid hl
 have HD:=Lib.hid hd
 clear hB hq hb hl hd HS
 obtain ⟨A,cap,rfl⟩:=Kd.S_slice HSV.out
 go_enter Try.func47,Try.ntmps47
 go_upto_region 2 with (fail)
 go_loopw [1,5] (fun v1 v5 wr => ∃ (i : Nat) (k : Int) (ys : List S56),i ≤ xs.length ∧ v5 = .int .i64 i ∧ v1 = .int .i64 k ∧ Aside0 (k = q + offEvent xs i) ∧ Aside0 (Mk (markEvents q xs) xs i ys) ∧ Aside0 (Kd.S k56 56 wr w0.heap.size ok (.slice A xs.length cap) ys) ∧ Aside0 (Below w0.heap.size w0 wr) ∧ Aside0 (Tch w wr ok)) (fun _ v5 _ => xs.length - (intOf v5).toNat)
 case atStart => exact ⟨0,q,xs,Nat.zero_le _,rfl,rfl,⟨by simp [offEvent]⟩,⟨Mk.start (markEvents_len q xs)⟩,⟨HSV.out⟩,⟨HB.out⟩,⟨Tch.refl _ _⟩⟩
 case round =>
  obtain ⟨i,k,ys,hi,rfl,rfl,HKK,HMK,HSR,HBR,HTR⟩:=hrel
  by_cases hlt : i < xs.length
  ·have b2 : decide ((i : Int) < (xs.length : Int)) = true:=decide_eq_true (by omega)
   have p5 : (0 ≤ (i : Int)) = True:=eq_true (by omega)
   have q5 : ((i : Int) < (xs.length : Int)) = True:=eq_true (by omega)
   have qn : (i < xs.length) = True:=eq_true hlt
   have hn : wrap64 ((i : Int) + 1) = (i : Int) + 1:=by have:=HL.out;unfold wrap64;omega
   have HLT:=Lib.hid hlt
   have HI:=Lib.hid hi
   have HN:=Lib.hid hn
   obtain ⟨g,cp,e,_⟩:=Kd.S_form HSR.out (by have h1:=HMK.out.len;omega)
   injection e with e1 e2 e3
   subst e1
   clear e2 e3
   clear hlt hi
   obtain ⟨y,hy⟩ : ∃ y,y = xs.getD i z56:=⟨_,rfl⟩
   have HY : Hid (ys.getD i z56 = y):=Lib.hid (by rw [hy];exact HMK.out.at _)
   have HYX:=Lib.hid hy
   have HYL : Hid (y.f3.f4.length ≤ 10000000):=Lib.hid (by rw [hy];refine HD.out _ (List.mem_of_getElem? (i:=i) ?_);rw [List.getD_eq_getElem?_getD,List.getElem?_eq_getElem HLT.out];rfl)
   have HQB : Hid (0 ≤ k ∧ k + 7 + (y.f3.f4.length : Int) ≤ 50000000 ∧ offEvent xs (i + 1) = offEvent xs i + 7 + (y.f3.f4.length : Int)):=Lib.hid (by
    have h1:=HKK.out;have h2:=HBD.out;have h3:=HQ.out;have h4:=offEvent_nn xs i
    have h5:=offEvent_le xs (i:=i + 1) (n:=xs.length) HLT.out
    have h6 : offEvent xs (i + 1) = offEvent xs i + 7 + (y.f3.f4.length : Int):=by rw [offEvent,hy]
    exact ⟨by omega,by omega,h6⟩)
   clear hy
   have HK1 : Hid ((wrap64 (k + 1)) = k + 1):=Lib.hid (by have h1:=HQB.out;unfold wrap64;omega)
   have HK2 : Hid ((wrap64 ((wrap64 (k + 1)) + 1)) = k + 2):=Lib.hid (by rw [HK1.out];have h1:=HQB.out;unfold wrap64;omega)
   have HK3 : Hid ((wrap64 ((wrap64 ((wrap64 (k + 1)) + 1)) + 1)) = k + 3):=Lib.hid (by rw [HK2.out];have h1:=HQB.out;unfold wrap64;omega)
   have HK4 : Hid ((wrap64 ((wrap64 ((wrap64 ((wrap64 (k + 1)) + 1)) + 1)) + 1)) = k + 4):=Lib.hid (by rw [HK3.out];have h1:=HQB.out;unfold wrap64;omega)
   have HK5 : Hid ((wrap64 ((wrap64 ((wrap64 ((wrap64 ((wrap64 (k + 1)) + 1)) + 1)) + 1)) + 1)) = k + 5):=Lib.hid (by rw [HK4.out];have h1:=HQB.out;unfold wrap64;omega)
   have HK6 : Hid ((wrap64 ((wrap64 ((wrap64 ((wrap64 ((wrap64 ((wrap64 (k + 1)) + 1)) + 1)) + 1)) + 1)) + 1)) = k + 6):=Lib.hid (by rw [HK5.out];have h1:=HQB.out;unfold wrap64;omega)
   have HK7 : Hid ((wrap64 ((wrap64 ((wrap64 ((wrap64 ((wrap64 ((wrap64 ((wrap64 (k + 1)) + 1)) + 1)) + 1)) + 1)) + 1)) + 1)) = k + 7):=Lib.hid (by rw [HK6.out];have h1:=HQB.out;unfold wrap64;omega)
   have HS0:=HSR
   have HB0:=HBR
   have HT0:=HTR
   go_upto_region 18 with (first | ((with_reducible refine gate_store (t:=3) (p:=16) rfl ?_);refine S_put k56 (w0:=w0) w0.heap.size rfl rfl rfl (e:=56) (i:=i) (j:=0) (xs:=ys) (z:=z56) (x':=({ y with f0:=k } : S56)) (u := .int .i64 k) rfl (by rfl) rfl rfl (by kernel_rfl) rfl HS0.out HLT.out (by decide) (by rw [HY.out];intro oki c hc;obtain ⟨v7,rfl,g7⟩:=k56_openM hc;exact k56_mkM _ _ _ ({ y with f0:=k } : S56) g7) HB0.out ?_;intro w1 hs hb hg;have HS1:=Lib.hid hs;have HB1:=Lib.hid hb;have HT1:=Lib.hid (HT0.out.grown hg (fun k e => by injection e with e;rw [← e];exact .inl (S_own_ok HSV.out rfl)));clear hs hb hg) | ((with_reducible refine gate_store (t:=3) (p:=23) rfl ?_);refine S_put k56 (w0:=w0) w0.heap.size rfl rfl rfl (e:=56) (i:=i) (j:=1) (xs:=(ys.set i ({ y with f0:=k } : S56))) (z:=z56) (x':=({ y with f0:=k,f1:=(wrap64 (k + 1)) } : S56)) (u := .int .i64 (wrap64 (k + 1))) rfl (by rfl) rfl rfl (by kernel_rfl) rfl HS1.out HLT.out (by decide) (by rw [getD_set ys i _ _ (by rw [HMK.out.len];exact HLT.out)];intro oki c hc;obtain ⟨v7,rfl,g7⟩:=k56_openM hc;exact k56_mkM _ _ _ ({ y with f0:=k,f1:=(wrap64 (k + 1)) } : S56) g7) HB1.out ?_;intro w2 hs hb hg;rw [List.set_set] at hs;have HS2:=Lib.hid hs;have HB2:=Lib.hid hb;have HT2:=Lib.hid (HT1.out.grown hg (fun k e => by injection e with e;rw [← e];exact .inl (S_own_ok HSV.out rfl)));clear hs hb hg) | ((with_reducible refine gate_store (t:=3) (p:=30) rfl ?_);refine S_put k56 (w0:=w0) w0.heap.size rfl rfl rfl (e:=56) (i:=i) (j:=2) (xs:=(ys.set i ({ y with f0:=k,f1:=(wrap64 (k + 1)) } : S56))) (z:=z56) (x':=({ y with f0:=k,f1:=(wrap64 (k + 1)),f2:=(wrap64 ((wrap64 (k + 1)) + 1)) } : S56)) (u := .int .i64 (wrap64 ((wrap64 (k + 1)) + 1))) rfl (by rfl) rfl rfl (by kernel_rfl) rfl HS2.out HLT.out (by decide) (by rw [getD_set ys i _ _ (by rw [HMK.out.len];exact HLT.out)];intro oki c hc;obtain ⟨v7,rfl,g7⟩:=k56_openM hc;exact k56_mkM _ _ _ ({ y with f0:=k,f1:=(wrap64 (k + 1)),f2:=(wrap64 ((wrap64 (k + 1)) + 1)) } : S56) g7) HB2.out ?_;intro w3 hs hb hg;rw [List.set_set] at hs;have HS3:=Lib.hid hs;have HB3:=Lib.hid hb;have HT3:=Lib.hid (HT2.out.grown hg (fun k e => by injection e with e;rw [← e];exact .inl (S_own_ok HSV.out rfl)));clear hs hb hg) | ((with_reducible refine gate_store (t:=4) (p:=40) rfl ?_);refine S_put k56 (w0:=w0) w0.heap.size rfl rfl rfl (e:=56) (i:=i) (j:=3) (xs:=(ys.set i ({ y with f0:=k,f1:=(wrap64 (k + 1)),f2:=(wrap64 ((wrap64 (k + 1)) + 1)) } : S56))) (z:=z56) (x':=({ y with f0:=k,f1:=(wrap64 (k + 1)),f2:=(wrap64 ((wrap64 (k + 1)) + 1)),f3 := { y.f3 with f0:=Int.tmod (wrap64 ((wrap64 ((wrap64 (k + 1)) + 1)) + 1)) 3 == 0 } } : S56)) (u := .bool (Int.tmod (wrap64 ((wrap64 ((wrap64 (k + 1)) + 1)) + 1)) 3 == 0)) rfl (by rfl) rfl rfl (by kernel_rfl) rfl HS3.out HLT.out (by decide) (by rw [getD_set ys i _ _ (by rw [HMK.out.len];exact HLT.out)];intro oki c hc;obtain ⟨v7,rfl,g7⟩:=k56_openM hc;exact k56_mkM _ _ _ ({ y with f0:=k,f1:=(wrap64 (k + 1)),f2:=(wrap64 ((wrap64 (k + 1)) + 1)),f3 := { y.f3 with f0:=Int.tmod (wrap64 ((wrap64 ((wrap64 (k + 1)) + 1)) + 1)) 3 == 0 } } : S56) g7) HB3.out ?_;intro w4 hs hb hg;rw [List.set_set] at hs;have HS4:=Lib.hid hs;have HB4:=Lib.hid hb;have HT4:=Lib.hid (HT3.out.grown hg (fun k e => by injection e with e;rw [← e];exact .inl (S_own_ok HSV.out rfl)));clear hs hb hg) | ((with_reducible refine gate_store (t:=43) (p:=49) rfl ?_);refine S_put k56 (w0:=w0) w0.heap.size rfl rfl rfl (e:=56) (i:=i) (j:=4) (xs:=(ys.set i ({ y with f0:=k,f1:=(wrap64 (k + 1)),f2:=(wrap64 ((wrap64 (k + 1)) + 1)),f3 := { y.f3 with f0:=Int.tmod (wrap64 ((wrap64 ((wrap64 (k + 1)) + 1)) + 1)) 3 == 0 } } : S56))) (z:=z56) (x':=({ y with f0:=k,f1:=(wrap64 (k + 1)),f2:=(wrap64 ((wrap64 (k + 1)) + 1)),f3 := { y.f3 with f0:=Int.tmod (wrap64 ((wrap64 ((wrap64 (k + 1)) + 1)) + 1)) 3 == 0,f1:=(wrap64 ((wrap64 ((wrap64 ((wrap64 (k + 1)) + 1)) + 1)) + 1)) % 4294967296 } } : S56)) (u := .int .u32 ((wrap64 ((wrap64 ((wrap64 ((wrap64 (k + 1)) + 1)) + 1)) + 1)) % 4294967296)) rfl (by rfl) rfl rfl (by kernel_rfl) rfl HS4.out HLT.out (by decide) (by rw [getD_set ys i _ _ (by rw [HMK.out.len];exact HLT.out)];intro oki c hc;obtain ⟨v7,rfl,g7⟩:=k56_openM hc;exact k56_mkM _ _ _ ({ y with f0:=k,f1:=(wrap64 (k + 1)),f2:=(wrap64 ((wrap64 (k + 1)) + 1)),f3 := { y.f3 with f0:=Int.tmod (wrap64 ((wrap64 ((wrap64 (k + 1)) + 1)) + 1)) 3 == 0,f1:=(wrap64 ((wrap64 ((wrap64 ((wrap64 (k + 1)) + 1)) + 1)) + 1)) % 4294967296 } } : S56) g7) HB4.out ?_;intro w5 hs hb hg;rw [List.set_set] at hs;have HS5:=Lib.hid hs;have HB5:=Lib.hid hb;have HT5:=Lib.hid (HT4.out.grown hg (fun k e => by injection e with e;rw [← e];exact .inl (S_own_ok HSV.out rfl)));clear hs hb hg) | ((with_reducible refine gate_store (t:=4) (p:=59) rfl ?_);refine S_put k56 (w0:=w0) w0.heap.size rfl rfl rfl (e:=56) (i:=i) (j:=5) (xs:=(ys.set i ({ y with f0:=k,f1:=(wrap64 (k + 1)),f2:=(wrap64 ((wrap64 (k + 1)) + 1)),f3 := { y.f3 with f0:=Int.tmod (wrap64 ((wrap64 ((wrap64 (k + 1)) + 1)) + 1)) 3 == 0,f1:=(wrap64 ((wrap64 ((wrap64 ((wrap64 (k + 1)) + 1)) + 1)) + 1)) % 4294967296 } } : S56))) (z:=z56) (x':=({ y with f0:=k,f1:=(wrap64 (k + 1)),f2:=(wrap64 ((wrap64 (k + 1)) + 1)),f3 := { y.f3 with f0:=Int.tmod (wrap64 ((wrap64 ((wrap64 (k + 1)) + 1)) + 1)) 3 == 0,f1:=(wrap64 ((wrap64 ((wrap64 ((wrap64 (k + 1)) + 1)) + 1)) + 1)) % 4294967296,f2:=Int.tmod (wrap64 ((wrap64 ((wrap64 ((wrap64 ((wrap64 (k + 1)) + 1)) + 1)) + 1)) + 1)) 3 == 0 } } : S56)) (u := .bool (Int.tmod (wrap64 ((wrap64 ((wrap64 ((wrap64 ((wrap64 (k + 1)) + 1)) + 1)) + 1)) + 1)) 3 == 0)) rfl (by rfl) rfl rfl (by kernel_rfl) rfl HS5.out HLT.out (by decide) (by rw [getD_set ys i _ _ (by rw [HMK.out.len];exact HLT.out)];intro oki c hc;obtain ⟨v7,rfl,g7⟩:=k56_openM hc;exact k56_mkM _ _ _ ({ y with f0:=k,f1:=(wrap64 (k + 1)),f2:=(wrap64 ((wrap64 (k + 1)) + 1)),f3 := { y.f3 with f0:=Int.tmod (wrap64 ((wrap64 ((wrap64 (k + 1)) + 1)) + 1)) 3 == 0,f1:=(wrap64 ((wrap64 ((wrap64 ((wrap64 (k + 1)) + 1)) + 1)) + 1)) % 4294967296,f2:=Int.tmod (wrap64 ((wrap64 ((wrap64 ((wrap64 ((wrap64 (k + 1)) + 1)) + 1)) + 1)) + 1)) 3 == 0 } } : S56) g7) HB5.out ?_;intro w6 hs hb hg;rw [List.set_set] at hs;have HS6:=Lib.hid hs;have HB6:=Lib.hid hb;have HT6:=Lib.hid (HT5.out.grown hg (fun k e => by injection e with e;rw [← e];exact .inl (S_own_ok HSV.out rfl)));clear hs hb hg) | ((with_reducible refine gate_store (t:=3) (p:=67) rfl ?_);refine S_put k56 (w0:=w0) w0.heap.size rfl rfl rfl (e:=56) (i:=i) (j:=6) (xs:=(ys.set i ({ y with f0:=k,f1:=(wrap64 (k + 1)),f2:=(wrap64 ((wrap64 (k + 1)) + 1)),f3 := { y.f3 with f0:=Int.tmod (wrap64 ((wrap64 ((wrap64 (k + 1)) + 1)) + 1)) 3 == 0,f1:=(wrap64 ((wrap64 ((wrap64 ((wrap64 (k + 1)) + 1)) + 1)) + 1)) % 4294967296,f2:=Int.tmod (wrap64 ((wrap64 ((wrap64 ((wrap64 ((wrap64 (k + 1)) + 1)) + 1)) + 1)) + 1)) 3 == 0 } } : S56))) (z:=z56) (x':=({ y with f0:=k,f1:=(wrap64 (k + 1)),f2:=(wrap64 ((wrap64 (k + 1)) + 1)),f3 := { y.f3 with f0:=Int.tmod (wrap64 ((wrap64 ((wrap64 (k + 1)) + 1)) + 1)) 3 == 0,f1:=(wrap64 ((wrap64 ((wrap64 ((wrap64 (k + 1)) + 1)) + 1)) + 1)) % 4294967296,f2:=Int.tmod (wrap64 ((wrap64 ((wrap64 ((wrap64 ((wrap64 (k + 1)) + 1)) + 1)) + 1)) + 1)) 3 == 0,f3:=(wrap64 ((wrap64 ((wrap64 ((wrap64 ((wrap64 ((wrap64 (k + 1)) + 1)) + 1)) + 1)) + 1)) + 1)) } } : S56)) (u := .int .i64 (wrap64 ((wrap64 ((wrap64 ((wrap64 ((wrap64 ((wrap64 (k + 1)) + 1)) + 1)) + 1)) + 1)) + 1))) rfl (by rfl) rfl rfl (by kernel_rfl) rfl HS6.out HLT.out (by decide) (by rw [getD_set ys i _ _ (by rw [HMK.out.len];exact HLT.out)];intro oki c hc;obtain ⟨v7,rfl,g7⟩:=k56_openM hc;exact k56_mkM _ _ _ ({ y with f0:=k,f1:=(wrap64 (k + 1)),f2:=(wrap64 ((wrap64 (k + 1)) + 1)),f3 := { y.f3 with f0:=Int.tmod (wrap64 ((wrap64 ((wrap64 (k + 1)) + 1)) + 1)) 3 == 0,f1:=(wrap64 ((wrap64 ((wrap64 ((wrap64 (k + 1)) + 1)) + 1)) + 1)) % 4294967296,f2:=Int.tmod (wrap64 ((wrap64 ((wrap64 ((wrap64 ((wrap64 (k + 1)) + 1)) + 1)) + 1)) + 1)) 3 == 0,f3:=(wrap64 ((wrap64 ((wrap64 ((wrap64 ((wrap64 ((wrap64 (k + 1)) + 1)) + 1)) + 1)) + 1)) + 1)) } } : S56) g7) HB6.out ?_;intro w7 hs hb hg;rw [List.set_set] at hs;have HS7:=Lib.hid hs;have HB7:=Lib.hid hb;have HT7:=Lib.hid (HT6.out.grown hg (fun k e => by injection e with e;rw [← e];exact .inl (S_own_ok HSV.out rfl)));clear hs hb hg))
   obtain ⟨oki,cc,hcl,hM,hcc,hoki,hback⟩:=Kd.S_borrow HS7.out z56 (i : Int) (by omega) (by have:=HLT.out;omega)
   rw [Int.toNat_natCast,getD_set ys i _ _ (by rw [HMK.out.len];exact HLT.out)] at hM
   obtain ⟨vd,rfl,gd⟩:=k56_openM hM
   have hcd:=hcc 7 _ rfl
   rw [Int.toNat_natCast,add_plain] at hcd
   have hc7 : w7.cell? ⟨g,i * 8 + 3 + 4,none⟩ = some vd:=hcd
   have GD:=Lib.hid gd
   go_wp2_with (first | (go_at_call 99;refine (markByteS_v w0 w7 oki vd y.f3.f4 (wrap64 ((wrap64 ((wrap64 ((wrap64 ((wrap64 ((wrap64 ((wrap64 (k + 1)) + 1)) + 1)) + 1)) + 1)) + 1)) + 1)) HB7.out GD.out HYL.out (by have h1:=HQB.out;have h2:=HK7.out;omega) (by have h1:=HQB.out;have h2:=HK7.out;omega)).mono ?_;rintro e w9 ⟨rfl,hr9,hb9,hg9⟩;have HS9:=Lib.hid (hback hg9 (fun k hk => R_own_ok GD.out hk) (k56_mkM _ _ _ ({ y with f0:=k,f1:=(wrap64 (k + 1)),f2:=(wrap64 ((wrap64 (k + 1)) + 1)),f3 := { y.f3 with f0:=Int.tmod (wrap64 ((wrap64 ((wrap64 (k + 1)) + 1)) + 1)) 3 == 0,f1:=(wrap64 ((wrap64 ((wrap64 ((wrap64 (k + 1)) + 1)) + 1)) + 1)) % 4294967296,f2:=Int.tmod (wrap64 ((wrap64 ((wrap64 ((wrap64 ((wrap64 (k + 1)) + 1)) + 1)) + 1)) + 1)) 3 == 0,f3:=(wrap64 ((wrap64 ((wrap64 ((wrap64 ((wrap64 ((wrap64 (k + 1)) + 1)) + 1)) + 1)) + 1)) + 1)),f4:=marks (wrap64 ((wrap64 ((wrap64 ((wrap64 ((wrap64 ((wrap64 ((wrap64 (k + 1)) + 1)) + 1)) + 1)) + 1)) + 1)) + 1)) y.f3.f4.length } } : S56) hr9));have HB9:=Lib.hid hb9;have HT9 : Hid (Tch w w9 ok):=Lib.hid (HT7.out.grown hg9 (fun k e => .inl (hoki k (R_own_ok GD.out e)).1));clear hr9 hb9 hg9))
   clear hcd hc7 hcc hM hcl hoki hback
   go_roundw
   case rel => exact ⟨i + 1,_,_,HLT.out,by rw [HN.out];rfl,rfl,⟨by have h1:=HQB.out;have h2:=HK7.out;have h3:=HKK.out;rw [h1.2.2];omega⟩,⟨by refine HMK.out.next HLT.out (v:=({ y with f0:=k,f1:=(wrap64 (k + 1)),f2:=(wrap64 ((wrap64 (k + 1)) + 1)),f3 := { y.f3 with f0:=Int.tmod (wrap64 ((wrap64 ((wrap64 (k + 1)) + 1)) + 1)) 3 == 0,f1:=(wrap64 ((wrap64 ((wrap64 ((wrap64 (k + 1)) + 1)) + 1)) + 1)) % 4294967296,f2:=Int.tmod (wrap64 ((wrap64 ((wrap64 ((wrap64 ((wrap64 (k + 1)) + 1)) + 1)) + 1)) + 1)) 3 == 0,f3:=(wrap64 ((wrap64 ((wrap64 ((wrap64 ((wrap64 ((wrap64 (k + 1)) + 1)) + 1)) + 1)) + 1)) + 1)),f4:=marks (wrap64 ((wrap64 ((wrap64 ((wrap64 ((wrap64 ((wrap64 ((wrap64 (k + 1)) + 1)) + 1)) + 1)) + 1)) + 1)) + 1)) y.f3.f4.length } } : S56)) ?_;rw [markEvents_get _ _ _ HLT.out, ← HYX.out, ← HKK.out];simp only [mkEvent,tm];rw [HK7.out,HK6.out,HK5.out,HK4.out,HK3.out,HK2.out,HK1.out]⟩,⟨by have h:=HS9.out;rw [Int.toNat_natCast,List.set_set] at h;exact h⟩,⟨HB9.out⟩,⟨HT9.out⟩⟩
   case measure => rw [HN.out];have:=HLT.out;simp [intOf];omega
  ·have hii : i = xs.length:=by omega
   have b2 : decide ((i : Int) < (xs.length : Int)) = false:=decide_eq_false (by omega)
   have qn : (i < xs.length) = False:=eq_false hlt
   have HE : Hid (ys = markEvents q xs):=Lib.hid (HMK.out.all (by omega))
   have HKE : Hid (k = q + offEvent xs xs.length):=Lib.hid (by rw [HKK.out,hii])
   clear hlt hi hii
   go_wp2_with (fail)
   go_ret
   exact ⟨by rw [HKE.out];rfl,by rw [← HE.out];exact HSR.out,HBR.out,HTR.out⟩
end Go.Proofs.Ytcaefabbcjlkdaa.P
namespace Go.Proofs.Ytcaefabbcjlkdaa.P
open Go.RowKit Go.Proofs.YtcaefabbcjlkdaaW.PrintWords Go.Proofs.YtcaefabbcjlkdaaW.PrintLast Go.Proofs.YtcaefabbcjlkdaaW.PrintMore
set_option linter.unusedVariables false
set_option linter.unusedSimpArgs false
def laws_markFilterS.l0 : Nat → List (S89) → Int → Int → Option (Int × (List (S89)))
 | 0,_,_,_ => none
 | k + 1,x0,x1,x5 => if x5 < (x0.length : Int) then (if 0 ≤ x5 then ((some (x0.set (x5 : Int).toNat (⟨((Int.tmod x1 3) == 0),(rd_T89 x0 x5).f1,(rd_T89 x0 x5).f2⟩ : S89) : List (S89))).bind fun y781 => ((some (y781.set (x5 : Int).toNat (⟨(rd_T89 y781 x5).f0,(wrap64 (x1 + 1)) % 4294967296,(rd_T89 y781 x5).f2⟩ : S89) : List (S89))).bind fun y782 => (laws_markFilterS.l0 k (y782.set (x5 : Int).toNat (⟨(rd_T89 y782 x5).f0,(rd_T89 y782 x5).f1,(wrap64 ((wrap64 (x1 + 1)) + 1)) % 4294967296⟩ : S89)) (wrap64 ((wrap64 ((wrap64 (x1 + 1)) + 1)) + 1)) (wrap64 (x5 + 1))))) else (none)) else (some (x1,x0))
def laws_markFilterS.f (k : Nat) (l0 : List (S89)) (a1 : Int) : Option (Int × (List (S89))):=laws_markFilterS.l0 k l0 a1 0
set_option maxHeartbeats 8000000 in
set_option maxRecDepth 100000 in
theorem laws_markFilterS.calls (k : Nat) (P0_ : Nat → Prop) (u9000_ : Value) (l0 : List (S89)) (a1 : Int) (r1 : Int) (r2 : List (S89)) (w0 w : World) (hB : Below w0.heap.size w0 w) (ho0 : Kd.R k89 89 w w0.heap.size P0_ u9000_ l0) (h : laws_markFilterS.f k l0 a1 = some (r1,r2)) :
  Calls Try.prog 21 #[u9000_, .int .i64 a1] w fun e w' => e = .returned (.int .i64 r1) ∧ Kd.R k89 89 w' w0.heap.size (fun k_ => (P0_ k_ ∨ w.heap.size ≤ k_)) u9000_ r2 ∧ Below w0.heap.size w0 w' ∧ Kept w w' (fun k_ => P0_ k_):=by
 have HO0:=Aside0.mk (show Kd.R k89 89 w w0.heap.size (fun k_ => (P0_ k_ ∨ w.heap.size ≤ k_)) u9000_ l0 from Kd.R_mono ho0 (fun k_ hk => (.inl hk)))
 have HK:=Aside0.mk (Kept.refl w (fun k_ => P0_ k_))
 have HW0:=Aside0.mk hB.size
 have HB:=Aside0.mk hB
 clear hB
 have H : (laws_markFilterS.l0 k l0 a1 0) = some (r1,r2):=h
 clear h
 have H':=Aside0.mk H
 clear H
 go_enter Try.func21,Try.ntmps21
 go_wp2
 go_loopg [1,5] k (fun kq v1 v5 w' => ∃ (x0_1 : List (S89)) (x1_1 : Int) (x5_1 : Int),v1 = .int .i64 x1_1 ∧ v5 = .int .i64 x5_1 ∧ Aside0 (laws_markFilterS.l0 kq x0_1 x1_1 x5_1 = some (r1,r2)) ∧ Aside0 (kq ≤ k) ∧ Aside0 (Kd.R k89 89 w' w0.heap.size (fun k_ => (P0_ k_ ∨ w.heap.size ≤ k_)) u9000_ x0_1) ∧ Aside0 (Kept w w' (fun k_ => P0_ k_)) ∧ Aside0 (Below w0.heap.size w0 w'))
 case atStart => exact ⟨(l0),(a1),(0),(by first | rfl | (simp;done) | (simp [*];done)),(by first | rfl | (simp;done) | (simp [*];done)),H',⟨Nat.le_refl _⟩,⟨by (with_reducible repeat (first | apply Kd.R_alloc | apply Kd.R_drewN | apply Kd.R_drew));exact HO0.out⟩,⟨by repeat (first | (with_reducible first | exact HK.out | apply Kept.alloc | apply Kept.drewN | apply Kept.drew) | exact HK.out)⟩,⟨by repeat (first | (with_reducible first | exact HB.out | apply below_alloc | apply pw_below_drewN | apply below_drew1) | exact HB.out)⟩⟩
 case round =>
  clear H'
  try clear c2
  try clear p2
  obtain ⟨x0_1,x1_1,x5_1,rfl,rfl,HA,HK1,HO_0,HK,HB⟩:=hrel
  cases gk with
  | zero => exact absurd HA.out (by simp [laws_markFilterS.l0])
  | succ k1 =>
   have H:=HA.out
   clear HA
   simp only [laws_markFilterS.l0] at H
   by_cases c3 : x5_1 < (x0_1.length : Int)
   ·rw [if_pos c3] at H
    have c3b0 : decide (x5_1 < (x0_1.length : Int)) = true:=decide_eq_true c3
    clear c3
    by_cases c4 : 0 ≤ x5_1
    ·rw [if_pos c4] at H
     have c4b0 : decide (0 ≤ x5_1) = true:=decide_eq_true c4
     clear c4
     obtain ⟨y781,hy781⟩ : ∃ y_ : List (S89),y_ = (x0_1.set (x5_1 : Int).toNat (⟨((Int.tmod x1_1 3) == 0),(rd_T89 x0_1 x5_1).f1,(rd_T89 x0_1 x5_1).f2⟩ : S89)):=⟨_,rfl⟩
     replace H : ((some (y781.set (x5_1 : Int).toNat (⟨(rd_T89 y781 x5_1).f0,(wrap64 (x1_1 + 1)) % 4294967296,(rd_T89 y781 x5_1).f2⟩ : S89) : List (S89))).bind fun y782 => (laws_markFilterS.l0 k1 (y782.set (x5_1 : Int).toNat (⟨(rd_T89 y782 x5_1).f0,(rd_T89 y782 x5_1).f1,(wrap64 ((wrap64 (x1_1 + 1)) + 1)) % 4294967296⟩ : S89)) (wrap64 ((wrap64 ((wrap64 (x1_1 + 1)) + 1)) + 1)) (wrap64 (x5_1 + 1)))) = some (r1,r2):=by first | (rw [hy781];with_reducible exact H) | (have H2_:=(Option.bind_some _ _).symm.trans H;rw [hy781];with_reducible exact H2_) | (have H2_:=(Option.bind_some _ _).symm.trans H;with_reducible exact H2_) | with_reducible exact H | (rw [hy781];exact H) | exact H
     have Ny781:=Aside0.mk hy781
     clear hy781
     obtain ⟨y782,hy782⟩ : ∃ y_ : List (S89),y_ = (y781.set (x5_1 : Int).toNat (⟨(rd_T89 y781 x5_1).f0,(wrap64 (x1_1 + 1)) % 4294967296,(rd_T89 y781 x5_1).f2⟩ : S89)):=⟨_,rfl⟩
     replace H : (laws_markFilterS.l0 k1 (y782.set (x5_1 : Int).toNat (⟨(rd_T89 y782 x5_1).f0,(rd_T89 y782 x5_1).f1,(wrap64 ((wrap64 (x1_1 + 1)) + 1)) % 4294967296⟩ : S89)) (wrap64 ((wrap64 ((wrap64 (x1_1 + 1)) + 1)) + 1)) (wrap64 (x5_1 + 1))) = some (r1,r2):=by first | (rw [hy782];with_reducible exact H) | (have H2_:=(Option.bind_some _ _).symm.trans H;rw [hy782];with_reducible exact H2_) | (have H2_:=(Option.bind_some _ _).symm.trans H;with_reducible exact H2_) | with_reducible exact H | (rw [hy782];exact H) | exact H
     have Ny782:=Aside0.mk hy782
     clear hy782
     obtain ⟨y783,hy783⟩ : ∃ y_ : List (S89),y_ = (y782.set (x5_1 : Int).toNat (⟨(rd_T89 y782 x5_1).f0,(rd_T89 y782 x5_1).f1,(wrap64 ((wrap64 (x1_1 + 1)) + 1)) % 4294967296⟩ : S89)):=⟨_,rfl⟩
     replace H : (laws_markFilterS.l0 k1 y783 (wrap64 ((wrap64 ((wrap64 (x1_1 + 1)) + 1)) + 1)) (wrap64 (x5_1 + 1))) = some (r1,r2):=by first | (rw [hy783];with_reducible exact H) | (have H2_:=(Option.bind_some _ _).symm.trans H;rw [hy783];with_reducible exact H2_) | (have H2_:=(Option.bind_some _ _).symm.trans H;with_reducible exact H2_) | with_reducible exact H | (rw [hy783];exact H) | exact H
     have Ny783:=Aside0.mk hy783
     clear hy783
     have H':=Aside0.mk H
     clear H
     obtain ⟨Ao8,co8,eo8⟩:=Kd.R_slice HO_0.out
     subst eo8
     have p5 : 0 ≤ (x5_1 : Int):=of_decide_eq_true (by first | (with_reducible assumption) | assumption)
     have q5 : (x5_1 : Int) < ((x0_1.length : Int) : Int):=of_decide_eq_true (by first | (with_reducible assumption) | assumption)
     obtain ⟨go5,co5,eo5,gb5,gl5,cl5,HG5⟩:=Kd.R_form HO_0.out (by omega)
     (first | cases eo5 | (injection eo5 with ea_ en_ ec_;(first | subst ea_ | (injection ea_ with ea_;subst ea_));subst ec_;clear en_))
     have GB5:=Aside0.mk gb5
     have GG5:=Aside0.mk HG5
     clear gb5 gl5 HG5
     have HMgo5:=Aside0.mk (show (P0_ go5 ∨ w.heap.size ≤ go5) from (HO_0.out.1 _ rfl))
     obtain ⟨ce5,hcl5,hM5,hcc5,hfr5⟩:=Kd.R_elem HO_0.out z89 (x5_1 : Int) p5 q5
     obtain rfl:=k89_openM hM5
     have hx5_0 : wr.cell? ⟨go5,(x5_1 : Int).toNat * 3,none⟩ = some (.bool ((rd_T89 x0_1 x5_1).f0)):=hcc5 0 _ rfl
     have hx5_1 : wr.cell? ⟨go5,(x5_1 : Int).toNat * 3 + 1,none⟩ = some (.int .u32 ((rd_T89 x0_1 x5_1).f1)):=hcc5 1 _ rfl
     have hx5_2 : wr.cell? ⟨go5,(x5_1 : Int).toNat * 3 + 2,none⟩ = some (.int .u32 ((rd_T89 x0_1 x5_1).f2)):=hcc5 2 _ rfl
     have hf5_0 : wr.frozen? ⟨go5,(x5_1 : Int).toNat * 3,none⟩ = false:=hfr5 0
     have hf5_1 : wr.frozen? ⟨go5,(x5_1 : Int).toNat * 3 + 1,none⟩ = false:=hfr5 1
     have hf5_2 : wr.frozen? ⟨go5,(x5_1 : Int).toNat * 3 + 2,none⟩ = false:=hfr5 2
     clear hcl5 hcc5 hfr5 hM5
     replace p5:=eq_true p5
     replace q5:=eq_true q5
     have HX9:=Aside0.mk (show Kd.R k89 89 wr w0.heap.size (fun k_ => (P0_ k_ ∨ w.heap.size ≤ k_)) (.slice (some ⟨go5,0,none⟩) x0_1.length co8) x0_1 from (by (with_reducible repeat (first | apply Kd.R_alloc | apply Kd.R_drewN | apply Kd.R_drew));exact HO_0.out))
     obtain ⟨ce9,hcl9,hM9,hcc9,hfr9⟩:=Kd.R_elem HX9.out z89 (x5_1 : Int) (of_decide_eq_true (by first | (with_reducible assumption) | assumption)) (by have h_ : (x5_1 : Int) < ((x0_1.length : Int) : Int):=of_decide_eq_true (by first | (with_reducible assumption) | assumption);first | exact h_ | (have e_:=(Kd.R_reads' HO_0.out).1;omega) | simpa using h_)
     obtain rfl:=k89_openM hM9
     have HP9:=Kd.R_seg HX9.out (x5_1 : Int) (of_decide_eq_true (by first | (with_reducible assumption) | assumption)) (by have h_ : (x5_1 : Int) < ((x0_1.length : Int) : Int):=of_decide_eq_true (by first | (with_reducible assumption) | assumption);first | exact h_ | (have e_:=(Kd.R_reads' HO_0.out).1;omega) | simpa using h_) (seg := [.bool ((Int.tmod x1_1 3) == 0)]) (j:=0) hcl9 hcc9 (show 1 ≤ 3 from by decide) (x':=(⟨((Int.tmod x1_1 3) == 0),(rd_T89 x0_1 x5_1).f1,(rd_T89 x0_1 x5_1).f2⟩ : S89)) (k89_mkM _ _ _ (⟨((Int.tmod x1_1 3) == 0),(rd_T89 x0_1 x5_1).f1,(rd_T89 x0_1 x5_1).f2⟩ : S89) ) (fun _ hk => hk)
     have hx9_0:=hcc9 0 _ rfl
     (try simp only [show (k89).sz = 3 from rfl,Nat.mul_one,Nat.add_zero] at hx9_0)
     have hf9_0:=hfr9 0
     (try simp only [show (k89).sz = 3 from rfl,Nat.mul_one,Nat.add_zero] at hf9_0)
     clear hcl9 hcc9 hfr9 hM9
     go_wp2_with (first | ((with_reducible refine gate_store (t:=4) (p:=18) rfl ?_);refine store_event (t:=4) (p:=18) (v := ?vo_w10) (w1:=(wr.setCell ⟨go5,(x5_1 : Int).toNat * 3,none⟩ (.bool ((Int.tmod x1_1 3) == 0)))) ?hg ?ho ?hn ?hr ?_;(case ho => rfl);(case hg => rfl);(case hn => rfl);(case hr => first | (go_simp;done) | (go_simp;rfl));intro w10 hw;have hg : wr.grownBy w10 (some go5):=(by rw [hw];exact HP9.2);have hp_ : Kd.R k89 89 w10 w0.heap.size (fun k_ => (P0_ k_ ∨ w.heap.size ≤ k_)) (.slice (some ⟨go5,0,none⟩) x0_1.length co8) y781:=(by rw [hw,Ny781.out];exact HP9.1);clear HP9;have n0_:=Aside0.mk (hp_);have n1_:=Aside0.mk ((by rw [hw];exact below_set (HB.out) GB5.out : Below w0.heap.size w0 w10));have n2_:=Aside0.mk (Kept.of_grown (S:=(fun k_ => P0_ k_)) hg (by repeat (first | (with_reducible first | exact HK.out | apply Kept.alloc | apply Kept.drewN | apply Kept.drew) | exact HK.out)) (fun k_ e_ => (HO_0.out.1 k_ e_)));clear HO_0;clear HB;clear HK;have HO_0:=n0_;have HB:=n1_;have HK:=n2_;clear n0_ n1_ n2_;clear hg hw hp_;have p6 : 0 ≤ (x5_1 : Int):=of_decide_eq_true (by first | (with_reducible assumption) | assumption);have q6 : (x5_1 : Int) < ((x0_1.length : Int) : Int):=of_decide_eq_true (by first | (with_reducible assumption) | assumption);obtain ⟨ce6,hcl6,hM6,hcc6,hfr6⟩:=Kd.R_elem HO_0.out z89 (x5_1 : Int) p6 q6;obtain rfl:=k89_openM hM6;have hx6_0 : w10.cell? ⟨go5,(x5_1 : Int).toNat * 3,none⟩ = some (.bool ((rd_T89 y781 x5_1).f0)):=hcc6 0 _ rfl;have hx6_1 : w10.cell? ⟨go5,(x5_1 : Int).toNat * 3 + 1,none⟩ = some (.int .u32 ((rd_T89 y781 x5_1).f1)):=hcc6 1 _ rfl;have hx6_2 : w10.cell? ⟨go5,(x5_1 : Int).toNat * 3 + 2,none⟩ = some (.int .u32 ((rd_T89 y781 x5_1).f2)):=hcc6 2 _ rfl;have hf6_0 : w10.frozen? ⟨go5,(x5_1 : Int).toNat * 3,none⟩ = false:=hfr6 0;have hf6_1 : w10.frozen? ⟨go5,(x5_1 : Int).toNat * 3 + 1,none⟩ = false:=hfr6 1;have hf6_2 : w10.frozen? ⟨go5,(x5_1 : Int).toNat * 3 + 2,none⟩ = false:=hfr6 2;clear hcl6 hcc6 hfr6 hM6;replace p6:=eq_true p6;replace q6:=eq_true q6;have HX11:=Aside0.mk (show Kd.R k89 89 w10 w0.heap.size (fun k_ => (P0_ k_ ∨ w.heap.size ≤ k_)) (.slice (some ⟨go5,0,none⟩) x0_1.length co8) y781 from (by (with_reducible repeat (first | apply Kd.R_alloc | apply Kd.R_drewN | apply Kd.R_drew));exact HO_0.out));obtain ⟨ce11,hcl11,hM11,hcc11,hfr11⟩:=Kd.R_elem HX11.out z89 (x5_1 : Int) (of_decide_eq_true (by first | (with_reducible assumption) | assumption)) (by have h_ : (x5_1 : Int) < ((x0_1.length : Int) : Int):=of_decide_eq_true (by first | (with_reducible assumption) | assumption);first | exact h_ | (have e_:=(Kd.R_reads' HO_0.out).1;omega) | simpa using h_);obtain rfl:=k89_openM hM11;have HP11:=Kd.R_seg HX11.out (x5_1 : Int) (of_decide_eq_true (by first | (with_reducible assumption) | assumption)) (by have h_ : (x5_1 : Int) < ((x0_1.length : Int) : Int):=of_decide_eq_true (by first | (with_reducible assumption) | assumption);first | exact h_ | (have e_:=(Kd.R_reads' HO_0.out).1;omega) | simpa using h_) (seg := [.int .u32 ((wrap64 (x1_1 + 1)) % 4294967296)]) (j:=1) hcl11 hcc11 (show 2 ≤ 3 from by decide) (x':=(⟨(rd_T89 y781 x5_1).f0,(wrap64 (x1_1 + 1)) % 4294967296,(rd_T89 y781 x5_1).f2⟩ : S89)) (k89_mkM _ _ _ (⟨(rd_T89 y781 x5_1).f0,(wrap64 (x1_1 + 1)) % 4294967296,(rd_T89 y781 x5_1).f2⟩ : S89) ) (fun _ hk => hk);have hx11_1:=hcc11 1 _ rfl;(try simp only [show (k89).sz = 3 from rfl,Nat.mul_one,Nat.add_zero] at hx11_1);have hf11_1:=hfr11 1;(try simp only [show (k89).sz = 3 from rfl,Nat.mul_one,Nat.add_zero] at hf11_1);clear hcl11 hcc11 hfr11 hM11) | ((with_reducible refine gate_store (t:=43) (p:=26) rfl ?_);refine store_event (t:=43) (p:=26) (v := ?vo_w12) (w1:=(w10.setCell ⟨go5,(x5_1 : Int).toNat * 3 + 1,none⟩ (.int .u32 ((wrap64 (x1_1 + 1)) % 4294967296)))) ?hg ?ho ?hn ?hr ?_;(case ho => rfl);(case hg => rfl);(case hn => rfl);(case hr => first | (go_simp;done) | (go_simp;rfl));intro w12 hw;have hg : w10.grownBy w12 (some go5):=(by rw [hw];exact HP11.2);have hp_ : Kd.R k89 89 w12 w0.heap.size (fun k_ => (P0_ k_ ∨ w.heap.size ≤ k_)) (.slice (some ⟨go5,0,none⟩) x0_1.length co8) y782:=(by rw [hw,Ny782.out];exact HP11.1);clear HP11;have n0_:=Aside0.mk (hp_);have n1_:=Aside0.mk ((by rw [hw];exact below_set (HB.out) GB5.out : Below w0.heap.size w0 w12));have n2_:=Aside0.mk (Kept.of_grown (S:=(fun k_ => P0_ k_)) hg (by repeat (first | (with_reducible first | exact HK.out | apply Kept.alloc | apply Kept.drewN | apply Kept.drew) | exact HK.out)) (fun k_ e_ => (HO_0.out.1 k_ e_)));clear HO_0;clear HB;clear HK;have HO_0:=n0_;have HB:=n1_;have HK:=n2_;clear n0_ n1_ n2_;clear hg hw hp_;have p7 : 0 ≤ (x5_1 : Int):=of_decide_eq_true (by first | (with_reducible assumption) | assumption);have q7 : (x5_1 : Int) < ((x0_1.length : Int) : Int):=of_decide_eq_true (by first | (with_reducible assumption) | assumption);obtain ⟨ce7,hcl7,hM7,hcc7,hfr7⟩:=Kd.R_elem HO_0.out z89 (x5_1 : Int) p7 q7;obtain rfl:=k89_openM hM7;have hx7_0 : w12.cell? ⟨go5,(x5_1 : Int).toNat * 3,none⟩ = some (.bool ((rd_T89 y782 x5_1).f0)):=hcc7 0 _ rfl;have hx7_1 : w12.cell? ⟨go5,(x5_1 : Int).toNat * 3 + 1,none⟩ = some (.int .u32 ((rd_T89 y782 x5_1).f1)):=hcc7 1 _ rfl;have hx7_2 : w12.cell? ⟨go5,(x5_1 : Int).toNat * 3 + 2,none⟩ = some (.int .u32 ((rd_T89 y782 x5_1).f2)):=hcc7 2 _ rfl;have hf7_0 : w12.frozen? ⟨go5,(x5_1 : Int).toNat * 3,none⟩ = false:=hfr7 0;have hf7_1 : w12.frozen? ⟨go5,(x5_1 : Int).toNat * 3 + 1,none⟩ = false:=hfr7 1;have hf7_2 : w12.frozen? ⟨go5,(x5_1 : Int).toNat * 3 + 2,none⟩ = false:=hfr7 2;clear hcl7 hcc7 hfr7 hM7;replace p7:=eq_true p7;replace q7:=eq_true q7;have HX13:=Aside0.mk (show Kd.R k89 89 w12 w0.heap.size (fun k_ => (P0_ k_ ∨ w.heap.size ≤ k_)) (.slice (some ⟨go5,0,none⟩) x0_1.length co8) y782 from (by (with_reducible repeat (first | apply Kd.R_alloc | apply Kd.R_drewN | apply Kd.R_drew));exact HO_0.out));obtain ⟨ce13,hcl13,hM13,hcc13,hfr13⟩:=Kd.R_elem HX13.out z89 (x5_1 : Int) (of_decide_eq_true (by first | (with_reducible assumption) | assumption)) (by have h_ : (x5_1 : Int) < ((x0_1.length : Int) : Int):=of_decide_eq_true (by first | (with_reducible assumption) | assumption);first | exact h_ | (have e_:=(Kd.R_reads' HO_0.out).1;omega) | simpa using h_);obtain rfl:=k89_openM hM13;have HP13:=Kd.R_seg HX13.out (x5_1 : Int) (of_decide_eq_true (by first | (with_reducible assumption) | assumption)) (by have h_ : (x5_1 : Int) < ((x0_1.length : Int) : Int):=of_decide_eq_true (by first | (with_reducible assumption) | assumption);first | exact h_ | (have e_:=(Kd.R_reads' HO_0.out).1;omega) | simpa using h_) (seg := [.int .u32 ((wrap64 ((wrap64 (x1_1 + 1)) + 1)) % 4294967296)]) (j:=2) hcl13 hcc13 (show 3 ≤ 3 from by decide) (x':=(⟨(rd_T89 y782 x5_1).f0,(rd_T89 y782 x5_1).f1,(wrap64 ((wrap64 (x1_1 + 1)) + 1)) % 4294967296⟩ : S89)) (k89_mkM _ _ _ (⟨(rd_T89 y782 x5_1).f0,(rd_T89 y782 x5_1).f1,(wrap64 ((wrap64 (x1_1 + 1)) + 1)) % 4294967296⟩ : S89) ) (fun _ hk => hk);have hx13_2:=hcc13 2 _ rfl;(try simp only [show (k89).sz = 3 from rfl,Nat.mul_one,Nat.add_zero] at hx13_2);have hf13_2:=hfr13 2;(try simp only [show (k89).sz = 3 from rfl,Nat.mul_one,Nat.add_zero] at hf13_2);clear hcl13 hcc13 hfr13 hM13) | ((with_reducible refine gate_store (t:=43) (p:=34) rfl ?_);refine store_event (t:=43) (p:=34) (v := ?vo_w14) (w1:=(w12.setCell ⟨go5,(x5_1 : Int).toNat * 3 + 2,none⟩ (.int .u32 ((wrap64 ((wrap64 (x1_1 + 1)) + 1)) % 4294967296)))) ?hg ?ho ?hn ?hr ?_;(case ho => rfl);(case hg => rfl);(case hn => rfl);(case hr => first | (go_simp;done) | (go_simp;rfl));intro w14 hw;have hg : w12.grownBy w14 (some go5):=(by rw [hw];exact HP13.2);have hp_ : Kd.R k89 89 w14 w0.heap.size (fun k_ => (P0_ k_ ∨ w.heap.size ≤ k_)) (.slice (some ⟨go5,0,none⟩) x0_1.length co8) y783:=(by rw [hw,Ny783.out];exact HP13.1);clear HP13;have n0_:=Aside0.mk (hp_);have n1_:=Aside0.mk ((by rw [hw];exact below_set (HB.out) GB5.out : Below w0.heap.size w0 w14));have n2_:=Aside0.mk (Kept.of_grown (S:=(fun k_ => P0_ k_)) hg (by repeat (first | (with_reducible first | exact HK.out | apply Kept.alloc | apply Kept.drewN | apply Kept.drew) | exact HK.out)) (fun k_ e_ => (HO_0.out.1 k_ e_)));clear HO_0;clear HB;clear HK;have HO_0:=n0_;have HB:=n1_;have HK:=n2_;clear n0_ n1_ n2_;clear hg hw hp_))
     go_roundg k1
     case measure => have:=HK1.out;omega
     case rel => exact ⟨(y783),(wrap64 ((wrap64 ((wrap64 (x1_1 + 1)) + 1)) + 1)),(wrap64 (x5_1 + 1)),(by first | rfl | (simp;done) | (simp [*];done)),(by first | rfl | (simp;done) | (simp [*];done)),H',⟨by have:=HK1.out;omega⟩,⟨by (with_reducible repeat (first | apply Kd.R_alloc | apply Kd.R_drewN | apply Kd.R_drew));exact HO_0.out⟩,⟨by repeat (first | (with_reducible first | exact HK.out | apply Kept.alloc | apply Kept.drewN | apply Kept.drew) | exact HK.out)⟩,⟨by repeat (first | (with_reducible first | exact HB.out | apply below_alloc | apply pw_below_drewN | apply below_drew1) | exact HB.out)⟩⟩
    ·rw [if_neg c4] at H
     exact absurd H (by simp)
   ·rw [if_neg c3] at H
    have c3b0 : decide (x5_1 < (x0_1.length : Int)) = false:=decide_eq_false c3
    clear c3
    simp only [Option.some.injEq,Prod.mk.injEq] at H
    obtain ⟨rfl,rfl⟩:=H
    obtain ⟨Ao15,co15,eo15⟩:=Kd.R_slice HO_0.out
    subst eo15
    go_wp2
    go_ret
    exact ⟨by first | rfl | (simp [errW_none,errW_some] <;> rfl) | (simp [*,errW_none,errW_some] <;> rfl),by (with_reducible repeat (first | apply Kd.R_alloc | apply Kd.R_drewN | apply Kd.R_drew));exact HO_0.out,by repeat (first | (with_reducible first | exact HB.out | apply below_alloc | apply pw_below_drewN | apply below_drew1) | exact HB.out),by repeat (first | (with_reducible first | exact HK.out | apply Kept.alloc | apply Kept.drewN | apply Kept.drew) | exact HK.out)⟩
def laws_heldFilterS.l0 : Nat → List (S89) → Int → Int → Option (Int)
 | 0,_,_,_ => none
 | k + 1,x0,x1,x5 => if x5 < (x0.length : Int) then (if 0 ≤ x5 then (if (((rd_T89 x0 x5).f0) != ((Int.tmod x1 3) == 0)) = true then (some (-1)) else (if ((rd_T89 x0 x5).f1) = ((wrap64 (x1 + 1)) % 4294967296) then (if ((rd_T89 x0 x5).f2) = ((wrap64 ((wrap64 (x1 + 1)) + 1)) % 4294967296) then (laws_heldFilterS.l0 k x0 (wrap64 ((wrap64 ((wrap64 (x1 + 1)) + 1)) + 1)) (wrap64 (x5 + 1))) else (some (-1))) else (some (-1)))) else (none)) else (some x1)
def laws_heldFilterS.f (k : Nat) (l0 : List (S89)) (a1 : Int) : Option (Int):=laws_heldFilterS.l0 k l0 a1 0
set_option maxHeartbeats 8000000 in
set_option maxRecDepth 100000 in
theorem laws_heldFilterS.calls (k : Nat) (A0 : Option Addr) (c0 : Nat) (l0 : List (S89)) (a1 : Int) (r : Int) (w : World) (hr0 : Kd.C k89 w A0 l0.length l0) (hc0 : l0.length ≤ c0) (h : laws_heldFilterS.f k l0 a1 = some r) :
  Calls Try.prog 71 #[.slice A0 l0.length c0, .int .i64 a1] w fun e w' => e = .returned (.int .i64 r) ∧ Drawn0 w w':=by
 have HR0:=Aside0.mk hr0
 have HC0:=Aside0.mk hc0
 clear hr0 hc0
 have H : (laws_heldFilterS.l0 k l0 a1 0) = some r:=h
 clear h
 have H':=Aside0.mk H
 clear H
 go_enter Try.func71,Try.ntmps71
 go_wp2
 go_loopg [1,5] k (fun kq v1 v5 w' => ∃ (x1_1 : Int) (x5_1 : Int),v1 = .int .i64 x1_1 ∧ v5 = .int .i64 x5_1 ∧ Aside0 (laws_heldFilterS.l0 kq l0 x1_1 x5_1 = some r) ∧ Aside0 (kq ≤ k) ∧ Drawn0 w w')
 case atStart => exact ⟨(a1),(0),(by first | rfl | (simp;done) | (simp [*];done)),(by first | rfl | (simp;done) | (simp [*];done)),H',⟨Nat.le_refl _⟩,by repeat (first | exact Drawn0.refl _ | apply Drawn0.step)⟩
 case round =>
  clear H'
  try clear p2
  obtain ⟨x1_1,x5_1,rfl,rfl,HA,HK1,⟨m1,rfl⟩⟩:=hrel
  cases gk with
  | zero => exact absurd HA.out (by simp [laws_heldFilterS.l0])
  | succ k1 =>
   have H:=HA.out
   clear HA
   simp only [laws_heldFilterS.l0] at H
   by_cases c3 : x5_1 < (l0.length : Int)
   ·rw [if_pos c3] at H
    have c3b0 : decide (x5_1 < (l0.length : Int)) = true:=decide_eq_true c3
    clear c3
    by_cases c4 : 0 ≤ x5_1
    ·rw [if_pos c4] at H
     have c4b0 : decide (0 ≤ x5_1) = true:=decide_eq_true c4
     clear c4
     by_cases c5 : (((rd_T89 l0 x5_1).f0) != ((Int.tmod x1_1 3) == 0)) = true
     ·rw [if_pos c5] at H
      have c5b0 : (((rd_T89 l0 x5_1).f0) != ((Int.tmod x1_1 3) == 0)) = true:=c5
      (try (have c5b1 : decide (((rd_T89 l0 x5_1).f0) = ((Int.tmod x1_1 3) == 0)) = false:=by simpa using c5))
      (try (have c5b2 : (((rd_T89 l0 x5_1).f0) == ((Int.tmod x1_1 3) == 0)) = false:=by simpa using c5))
      (try (have c5b3 : ¬ (((rd_T89 l0 x5_1).f0) = ((Int.tmod x1_1 3) == 0)):=by simpa using c5))
      clear c5
      obtain rfl:=Option.some.inj H
      have p798 : 0 ≤ (x5_1 : Int):=of_decide_eq_true (by first | (with_reducible assumption) | assumption)
      have q798 : x5_1 < (l0.length : Int):=of_decide_eq_true (by first | (with_reducible assumption) | assumption)
      obtain ⟨ad798,e798,hx798_0,hx798_1,hx798_2⟩:=at_T89 HR0.out x5_1 p798 q798
      cases e798
      replace p798:=eq_true p798
      replace q798:=eq_true q798
      go_wp2
      go_ret
      exact ⟨by first | rfl | (simp;done) | (simp [*];done),by repeat (first | exact Drawn0.refl _ | apply Drawn0.step)⟩
     ·rw [if_neg c5] at H
      have c5b0 : (((rd_T89 l0 x5_1).f0) != ((Int.tmod x1_1 3) == 0)) = false:=by simpa using c5
      (try (have c5b1 : decide (((rd_T89 l0 x5_1).f0) = ((Int.tmod x1_1 3) == 0)) = true:=by simpa using c5))
      (try (have c5b2 : (((rd_T89 l0 x5_1).f0) == ((Int.tmod x1_1 3) == 0)) = true:=by simpa using c5))
      clear c5
      by_cases c6 : ((rd_T89 l0 x5_1).f1) = ((wrap64 (x1_1 + 1)) % 4294967296)
      ·rw [if_pos c6] at H
       have c6b0 : (((rd_T89 l0 x5_1).f1) == ((wrap64 (x1_1 + 1)) % 4294967296)) = true:=beq_iff_eq.mpr c6
       have c6b1 : (((rd_T89 l0 x5_1).f1) != ((wrap64 (x1_1 + 1)) % 4294967296)) = false:=bne_eq_false_iff_eq.mpr c6
       clear c6
       by_cases c7 : ((rd_T89 l0 x5_1).f2) = ((wrap64 ((wrap64 (x1_1 + 1)) + 1)) % 4294967296)
       ·rw [if_pos c7] at H
        have c7b0 : (((rd_T89 l0 x5_1).f2) == ((wrap64 ((wrap64 (x1_1 + 1)) + 1)) % 4294967296)) = true:=beq_iff_eq.mpr c7
        have c7b1 : (((rd_T89 l0 x5_1).f2) != ((wrap64 ((wrap64 (x1_1 + 1)) + 1)) % 4294967296)) = false:=bne_eq_false_iff_eq.mpr c7
        clear c7
        have H':=Aside0.mk H
        clear H
        have p798 : 0 ≤ (x5_1 : Int):=of_decide_eq_true (by first | (with_reducible assumption) | assumption)
        have q798 : x5_1 < (l0.length : Int):=of_decide_eq_true (by first | (with_reducible assumption) | assumption)
        obtain ⟨ad798,e798,hx798_0,hx798_1,hx798_2⟩:=at_T89 HR0.out x5_1 p798 q798
        cases e798
        replace p798:=eq_true p798
        replace q798:=eq_true q798
        have p799 : 0 ≤ (x5_1 : Int):=of_decide_eq_true (by first | (with_reducible assumption) | assumption)
        have q799 : x5_1 < (l0.length : Int):=of_decide_eq_true (by first | (with_reducible assumption) | assumption)
        obtain ⟨ad799,e799,hx799_0,hx799_1,hx799_2⟩:=at_T89 HR0.out x5_1 p799 q799
        obtain rfl : ad798 = ad799:=(by injection e799)
        replace p799:=eq_true p799
        replace q799:=eq_true q799
        have p800 : 0 ≤ (x5_1 : Int):=of_decide_eq_true (by first | (with_reducible assumption) | assumption)
        have q800 : x5_1 < (l0.length : Int):=of_decide_eq_true (by first | (with_reducible assumption) | assumption)
        obtain ⟨ad800,e800,hx800_0,hx800_1,hx800_2⟩:=at_T89 HR0.out x5_1 p800 q800
        obtain rfl : ad798 = ad800:=(by injection e800)
        replace p800:=eq_true p800
        replace q800:=eq_true q800
        go_wp2
        go_roundg k1
        case measure => have:=HK1.out;omega
        case rel => exact ⟨(wrap64 ((wrap64 ((wrap64 (x1_1 + 1)) + 1)) + 1)),(wrap64 (x5_1 + 1)),(by first | rfl | (simp;done) | (simp [*];done)),(by first | rfl | (simp;done) | (simp [*];done)),H',⟨by have:=HK1.out;omega⟩,by repeat (first | exact Drawn0.refl _ | apply Drawn0.step)⟩
       ·rw [if_neg c7] at H
        have c7b0 : (((rd_T89 l0 x5_1).f2) == ((wrap64 ((wrap64 (x1_1 + 1)) + 1)) % 4294967296)) = false:=beq_eq_false_iff_ne.mpr c7
        have c7b1 : (((rd_T89 l0 x5_1).f2) != ((wrap64 ((wrap64 (x1_1 + 1)) + 1)) % 4294967296)) = true:=bne_iff_ne.mpr c7
        obtain rfl:=Option.some.inj H
        have p798 : 0 ≤ (x5_1 : Int):=of_decide_eq_true (by first | (with_reducible assumption) | assumption)
        have q798 : x5_1 < (l0.length : Int):=of_decide_eq_true (by first | (with_reducible assumption) | assumption)
        obtain ⟨ad798,e798,hx798_0,hx798_1,hx798_2⟩:=at_T89 HR0.out x5_1 p798 q798
        cases e798
        replace p798:=eq_true p798
        replace q798:=eq_true q798
        have p799 : 0 ≤ (x5_1 : Int):=of_decide_eq_true (by first | (with_reducible assumption) | assumption)
        have q799 : x5_1 < (l0.length : Int):=of_decide_eq_true (by first | (with_reducible assumption) | assumption)
        obtain ⟨ad799,e799,hx799_0,hx799_1,hx799_2⟩:=at_T89 HR0.out x5_1 p799 q799
        obtain rfl : ad798 = ad799:=(by injection e799)
        replace p799:=eq_true p799
        replace q799:=eq_true q799
        have p800 : 0 ≤ (x5_1 : Int):=of_decide_eq_true (by first | (with_reducible assumption) | assumption)
        have q800 : x5_1 < (l0.length : Int):=of_decide_eq_true (by first | (with_reducible assumption) | assumption)
        obtain ⟨ad800,e800,hx800_0,hx800_1,hx800_2⟩:=at_T89 HR0.out x5_1 p800 q800
        obtain rfl : ad798 = ad800:=(by injection e800)
        replace p800:=eq_true p800
        replace q800:=eq_true q800
        go_wp2
        go_ret
        exact ⟨by first | rfl | (simp;done) | (simp [*];done),by repeat (first | exact Drawn0.refl _ | apply Drawn0.step)⟩
      ·rw [if_neg c6] at H
       have c6b0 : (((rd_T89 l0 x5_1).f1) == ((wrap64 (x1_1 + 1)) % 4294967296)) = false:=beq_eq_false_iff_ne.mpr c6
       have c6b1 : (((rd_T89 l0 x5_1).f1) != ((wrap64 (x1_1 + 1)) % 4294967296)) = true:=bne_iff_ne.mpr c6
       obtain rfl:=Option.some.inj H
       have p798 : 0 ≤ (x5_1 : Int):=of_decide_eq_true (by first | (with_reducible assumption) | assumption)
       have q798 : x5_1 < (l0.length : Int):=of_decide_eq_true (by first | (with_reducible assumption) | assumption)
       obtain ⟨ad798,e798,hx798_0,hx798_1,hx798_2⟩:=at_T89 HR0.out x5_1 p798 q798
       cases e798
       replace p798:=eq_true p798
       replace q798:=eq_true q798
       have p799 : 0 ≤ (x5_1 : Int):=of_decide_eq_true (by first | (with_reducible assumption) | assumption)
       have q799 : x5_1 < (l0.length : Int):=of_decide_eq_true (by first | (with_reducible assumption) | assumption)
       obtain ⟨ad799,e799,hx799_0,hx799_1,hx799_2⟩:=at_T89 HR0.out x5_1 p799 q799
       obtain rfl : ad798 = ad799:=(by injection e799)
       replace p799:=eq_true p799
       replace q799:=eq_true q799
       go_wp2
       go_ret
       exact ⟨by first | rfl | (simp;done) | (simp [*];done),by repeat (first | exact Drawn0.refl _ | apply Drawn0.step)⟩
    ·rw [if_neg c4] at H
     exact absurd H (by simp)
   ·rw [if_neg c3] at H
    have c3b0 : decide (x5_1 < (l0.length : Int)) = false:=decide_eq_false c3
    clear c3
    obtain rfl:=Option.some.inj H
    go_wp2
    go_ret
    exact ⟨by first | rfl | (simp;done) | (simp [*];done),by repeat (first | exact Drawn0.refl _ | apply Drawn0.step)⟩
end Go.Proofs.Ytcaefabbcjlkdaa.P
namespace Go.Proofs.Ytcaefabbcjlkdaa.P
open Go Go.RowKit Go.Proofs.YtcaefabbcjlkdaaW.PrintWords Go.Proofs.YtcaefabbcjlkdaaW.PrintLast Go.Proofs.YtcaefabbcjlkdaaW.PrintMore
set_option linter.unusedVariables false
set_option linter.unusedSimpArgs false
theorem heldFrameS_ev (xs : List S45) (q : Int) (hq : 0 ≤ q) (hb : q + offFrame xs xs.length ≤ 50000000) (hl : xs.length ≤ 10000000) (hd : ∀ x ∈ xs,x.f4.length ≤ 10000000) : Ev (fun k => laws_heldFrameS.f k (markFrames q xs) q) (q + offFrame xs xs.length):=by
 have loop : ∀ (d i : Nat),i + d = xs.length → Ev (fun k => laws_heldFrameS.l0 k (markFrames q xs) (q + offFrame xs i) (i : Int)) (q + offFrame xs xs.length):=by
  intro d
  induction d with
  | zero =>
   intro i hi
   refine Ev.step (f:=fun _ => some (q + offFrame xs xs.length)) (fun k => ?_) (Ev.now _)
   simp only [laws_heldFrameS.l0]
   rw [if_neg (by rw [markFrames_len];omega),show i = xs.length by omega]
  | succ d ih =>
   intro i hi
   have hlt : i < xs.length:=by omega
   have hr : rd_T45 (markFrames q xs) (i : Int) = mkFrame (q + offFrame xs i) (xs.getD i z45):=by
    unfold rd_T45
    rw [Int.toNat_natCast,List.getD_eq_getElem?_getD,markFrames_get q xs i hlt];rfl
   have hy : (xs.getD i z45).f4.length ≤ 10000000:=by
    refine hd _ (List.mem_of_getElem? (i:=i) ?_)
    rw [List.getD_eq_getElem?_getD,List.getElem?_eq_getElem hlt];rfl
   have h4:=offFrame_nn xs i
   have h5:=offFrame_le xs (i:=i + 1) (n:=xs.length) hlt
   have h6 : offFrame xs (i + 1) = offFrame xs i + 4 + ((xs.getD i z45).f4.length : Int):=by rw [offFrame]
   have e1 : (wrap64 ((q + offFrame xs i) + 1)) = q + offFrame xs i + 1:=by unfold wrap64;omega
   have e2 : (wrap64 ((wrap64 ((q + offFrame xs i) + 1)) + 1)) = q + offFrame xs i + 2:=by rw [e1];unfold wrap64;omega
   have e3 : (wrap64 ((wrap64 ((wrap64 ((q + offFrame xs i) + 1)) + 1)) + 1)) = q + offFrame xs i + 3:=by rw [e2];unfold wrap64;omega
   have e4 : (wrap64 ((wrap64 ((wrap64 ((wrap64 ((q + offFrame xs i) + 1)) + 1)) + 1)) + 1)) = q + offFrame xs i + 4:=by rw [e3];unfold wrap64;omega
   have hn : 0 ≤ (i : Int) ∧ (i : Int) < ((markFrames q xs).length : Int):=by rw [markFrames_len];omega
   have one:=heldByteS_ev (xs.getD i z45).f4.length hy (q + offFrame xs i + 4) (by omega) (by omega)
   have hw : wrap64 ((i : Int) + 1) = ((i + 1 : Nat) : Int):=by rw [w64 (by omega) (by omega)];rfl
   have ht : q + offFrame xs i + 4 + ((xs.getD i z45).f4.length : Int) = q + offFrame xs (i + 1):=by rw [h6];omega
   refine Ev.step (fun k => by simp only [laws_heldFrameS.l0];rw [if_pos hn.2,if_pos hn.1,e4,e3,e2,e1,hr];simp only [mkFrame,tm,bne_self_eq_false,Bool.false_eq_true, ↓reduceIte];try rfl) (Ev.bind one ?_)
   simp only [hw,ht]
   exact ev_neg (by omega) (ih (i + 1) (by omega))
 refine Ev.congr (fun k => by unfold laws_heldFrameS.f;rfl) (by have:=loop xs.length 0 (by omega);simpa [offFrame] using this)
def mkFilter (k : Int) : S89:=⟨tm k,(k + 1) % 4294967296,(k + 2) % 4294967296⟩
def markFilters (q : Int) (n : Nat) : List S89:=(List.range n).map (fun i : Nat => mkFilter (q + 3 * (i : Int)))
theorem markFilters_len (q : Int) (n : Nat) : (markFilters q n).length = n:=by simp [markFilters]
theorem markFilters_get (q : Int) (n i : Nat) (hi : i < n) : (markFilters q n)[i]? = some (mkFilter (q + 3 * (i : Int))):=by
 simp [markFilters,List.getElem?_range,hi]
theorem heldFilterS_ev (n : Nat) (q : Int) (hq : 0 ≤ q) (hb : q + 3 * (n : Int) ≤ 50000000) : Ev (fun k => laws_heldFilterS.f k (markFilters q n) q) (q + 3 * (n : Int)):=by
 have loop : ∀ (d i : Nat),i + d = n → Ev (fun k => laws_heldFilterS.l0 k (markFilters q n) (q + 3 * (i : Int)) (i : Int)) (q + 3 * (n : Int)):=by
  intro d
  induction d with
  | zero =>
   intro i hi
   refine Ev.step (f:=fun _ => some (q + 3 * (n : Int))) (fun k => ?_) (Ev.now _)
   simp only [laws_heldFilterS.l0]
   rw [if_neg (by rw [markFilters_len];omega),show i = n by omega]
  | succ d ih =>
   intro i hi
   have hlt : i < n:=by omega
   have hr : rd_T89 (markFilters q n) (i : Int) = mkFilter (q + 3 * (i : Int)):=by
    unfold rd_T89
    rw [Int.toNat_natCast,List.getD_eq_getElem?_getD,markFilters_get q n i hlt];rfl
   have e1 : wrap64 (q + 3 * (i : Int) + 1) = q + 3 * (i : Int) + 1:=by unfold wrap64;omega
   have e2 : wrap64 (wrap64 (q + 3 * (i : Int) + 1) + 1) = q + 3 * (i : Int) + 2:=by rw [e1];unfold wrap64;omega
   have e3 : wrap64 (wrap64 (wrap64 (q + 3 * (i : Int) + 1) + 1) + 1) = q + 3 * ((i + 1 : Nat) : Int):=by rw [e2];unfold wrap64;omega
   have hw : wrap64 ((i : Int) + 1) = ((i + 1 : Nat) : Int):=by rw [w64 (by omega) (by omega)];rfl
   refine Ev.step (fun k => by simp only [laws_heldFilterS.l0];rw [if_pos (by rw [markFilters_len];omega),if_pos (by omega),e3,e2,e1,hr];simp only [mkFilter,tm,bne_self_eq_false,Bool.false_eq_true, ↓reduceIte];rw [hw];try rfl) (ih (i + 1) (by omega))
 refine Ev.congr (fun k => by unfold laws_heldFilterS.f;rfl) (by have:=loop n 0 (by omega);simpa using this)
theorem markFilterS_ev (l : List S89) (q : Int) (hq : 0 ≤ q) (hb : q + 3 * (l.length : Int) ≤ 50000000) : Ev (fun k => laws_markFilterS.f k l q) (q + 3 * (l.length : Int),markFilters q l.length):=by
 have loop : ∀ (d i : Nat) (ys : List S89),i + d = l.length → Mk (markFilters q l.length) l i ys → Ev (fun k => laws_markFilterS.l0 k ys (q + 3 * (i : Int)) (i : Int)) (q + 3 * (l.length : Int),markFilters q l.length):=by
  intro d
  induction d with
  | zero =>
   intro i ys hi hy
   refine Ev.step (f:=fun _ => some (q + 3 * (l.length : Int),markFilters q l.length)) (fun k => ?_) (Ev.now _)
   simp only [laws_markFilterS.l0]
   rw [if_neg (by rw [hy.len];omega),show i = l.length by omega,hy.all (by omega)]
  | succ d ih =>
   intro i ys hi hy
   have hlt : i < l.length:=by omega
   have hyl : i < ys.length:=by rw [hy.len];exact hlt
   have e1 : wrap64 (q + 3 * (i : Int) + 1) = q + 3 * (i : Int) + 1:=by unfold wrap64;omega
   have e2 : wrap64 (wrap64 (q + 3 * (i : Int) + 1) + 1) = q + 3 * (i : Int) + 2:=by rw [e1];unfold wrap64;omega
   have e3 : wrap64 (wrap64 (wrap64 (q + 3 * (i : Int) + 1) + 1) + 1) = q + 3 * ((i + 1 : Nat) : Int):=by rw [e2];unfold wrap64;omega
   have hw : wrap64 ((i : Int) + 1) = ((i + 1 : Nat) : Int):=by rw [w64 (by omega) (by omega)];rfl
   have hs : ∀ v,rd_T89 (ys.set i v) (i : Int) = v:=fun v => by unfold rd_T89;rw [Int.toNat_natCast];exact getD_set ys i v _ hyl
   refine Ev.step (f:=fun k => laws_markFilterS.l0 k (ys.set i (mkFilter (q + 3 * (i : Int)))) (q + 3 * ((i + 1 : Nat) : Int)) ((i + 1 : Nat) : Int)) (fun k => ?_) (ih (i + 1) _ (by omega) (hy.next hlt (markFilters_get q _ i hlt)))
   simp only [laws_markFilterS.l0]
   rw [if_pos (by omega),if_pos (by omega)]
   simp only [Option.bind_some,Int.toNat_natCast]
   rw [e3,e2,e1,hw]
   simp only [hs,List.set_set]
   rfl
 refine Ev.congr (fun k => by unfold laws_markFilterS.f;rfl) (by have:=loop l.length 0 l (by omega) (Mk.start (by rw [markFilters_len]));simpa using this)
theorem markFilterS_v (w0 w : World) (P0 : Nat → Prop) (v : Value) (l : List S89) (q : Int) (hB : Below w0.heap.size w0 w) (hr : (k89).R 89 w w0.heap.size P0 v l) (hq : 0 ≤ q) (hb : q + 3 * (l.length : Int) ≤ 50000000) :
  Calls Try.prog 21 #[v, .int .i64 q] w fun e w' => e = .returned (.int .i64 (q + 3 * (l.length : Int))) ∧ (k89).R 89 w' w0.heap.size P0 v (markFilters q l.length) ∧ Below w0.heap.size w0 w' ∧ Tch w w' P0:=by
 obtain ⟨k,hk⟩:=(markFilterS_ev l q hq hb).rounds
 refine (laws_markFilterS.calls k (fun k => some k = v.ownBlock) v l q _ _ w0 w hB (Kd.R_tight rfl hr) hk).mono ?_
 rintro e w' ⟨rfl,h2,h3,h4⟩
 exact ⟨rfl,Kd.R_mono (Kd.R_tight rfl h2) (fun k hk => R_own_ok hr hk.symm),h3,h3.os.trans hB.os.symm,h3.tape.trans hB.tape.symm,h3.output.trans hB.output.symm,h4.mono (fun k hk => R_own_ok hr hk.symm)⟩
def cnt1 (h : HV) (q : Int) : Int:=q + 3 * (h.fs.length : Int)
def cnt2 (h : HV) (q : Int) : Int:=cnt1 h q + offBox h.bs h.bs.length
def cnt3 (h : HV) (q : Int) : Int:=cnt2 h q + offFrame h.fr h.fr.length
def cnt4 (h : HV) (q : Int) : Int:=cnt3 h q + offEvent h.ev h.ev.length
def markHV (q : Int) (h : HV) : HV := { h with fs:=markFilters q h.fs.length,bs:=markBoxs (cnt1 h q) h.bs,fr:=markFrames (cnt2 h q) h.fr,ev:=markEvents (cnt3 h q) h.ev }
structure HMarks (q : Int) (h : HV) : Prop where
 q0 : 0 ≤ q
 top : cnt4 h q ≤ 50000000
 l2 : h.bs.length ≤ 10000000
 l3 : h.fr.length ≤ 10000000
 l4 : h.ev.length ≤ 10000000
 d2 : ∀ y ∈ h.bs,y.f3.f4.length ≤ 10000000
 d3 : ∀ y ∈ h.fr,y.f4.length ≤ 10000000
 d4 : ∀ y ∈ h.ev,y.f3.f4.length ≤ 10000000
theorem HMarks.steps {q : Int} {h : HV} (H : HMarks q h) : 0 ≤ cnt1 h q ∧ 0 ≤ cnt2 h q ∧ 0 ≤ cnt3 h q ∧ cnt1 h q ≤ 50000000 ∧ cnt2 h q ≤ 50000000 ∧ cnt3 h q ≤ 50000000:=by
 have h0:=H.q0
 have h1:=H.top
 have h2:=offBox_nn h.bs h.bs.length
 have h3:=offFrame_nn h.fr h.fr.length
 have h4:=offEvent_nn h.ev h.ev.length
 unfold cnt4 cnt3 cnt2 cnt1 at *
 omega
section
variable {w w1 : World} {base : Nat} {ok : Nat → Prop} {o : Nat → Nat} {h : HV} {vf vb vq ve : Value}
theorem HRows.upF {l : List S89} (H : HRows w base ok o h vf vb vq ve) (hT : Tch w w1 (fun k => ok k ∧ o k = 0)) (hr : (k89).R 89 w1 base (fun k => ok k ∧ o k = 0) vf l) : HRows w1 base ok o { h with fs:=l } vf vb vq ve :=
 ⟨hr,Kd.S_step H.b (fun k hk hl => hT.block hl (fun e => by have h1:=hk.2;have h2:=e.2;omega)),Kd.S_step H.q (fun k hk hl => hT.block hl (fun e => by have h1:=hk.2;have h2:=e.2;omega)),Kd.S_step H.e (fun k hk hl => hT.block hl (fun e => by have h1:=hk.2;have h2:=e.2;omega))⟩
theorem HRows.upB {l : List S87} (H : HRows w base ok o h vf vb vq ve) (hT : Tch w w1 (fun k => ok k ∧ o k = 1)) (hr : Kd.S k87 87 w1 base (fun k => ok k ∧ o k = 1) vb l) : HRows w1 base ok o { h with bs:=l } vf vb vq ve :=
 ⟨Kd.R_step H.f (fun k hk hl => hT.block hl (fun e => by have h1:=hk.2;have h2:=e.2;omega)),hr,Kd.S_step H.q (fun k hk hl => hT.block hl (fun e => by have h1:=hk.2;have h2:=e.2;omega)),Kd.S_step H.e (fun k hk hl => hT.block hl (fun e => by have h1:=hk.2;have h2:=e.2;omega))⟩
theorem HRows.upQ {l : List S45} (H : HRows w base ok o h vf vb vq ve) (hT : Tch w w1 (fun k => ok k ∧ o k = 2)) (hr : Kd.S k45 45 w1 base (fun k => ok k ∧ o k = 2) vq l) : HRows w1 base ok o { h with fr:=l } vf vb vq ve :=
 ⟨Kd.R_step H.f (fun k hk hl => hT.block hl (fun e => by have h1:=hk.2;have h2:=e.2;omega)),Kd.S_step H.b (fun k hk hl => hT.block hl (fun e => by have h1:=hk.2;have h2:=e.2;omega)),hr,Kd.S_step H.e (fun k hk hl => hT.block hl (fun e => by have h1:=hk.2;have h2:=e.2;omega))⟩
theorem HRows.upE {l : List S56} (H : HRows w base ok o h vf vb vq ve) (hT : Tch w w1 (fun k => ok k ∧ o k = 3)) (hr : Kd.S k56 56 w1 base (fun k => ok k ∧ o k = 3) ve l) : HRows w1 base ok o { h with ev:=l } vf vb vq ve :=
 ⟨Kd.R_step H.f (fun k hk hl => hT.block hl (fun e => by have h1:=hk.2;have h2:=e.2;omega)),Kd.S_step H.b (fun k hk hl => hT.block hl (fun e => by have h1:=hk.2;have h2:=e.2;omega)),Kd.S_step H.q (fun k hk hl => hT.block hl (fun e => by have h1:=hk.2;have h2:=e.2;omega)),hr⟩
end
set_option maxRecDepth 100000 in
set_option maxHeartbeats 4000000 in
theorem markHost_in (w0 w : World) (ok : Nat → Prop) (h : HV) (C : List Value) (q : Int) (hB : Below w0.heap.size w0 w) (hO : HOwn w w0.heap.size ok h C) (hin : ∀ k,ok k → k < w.heap.size) (hM : HMarks q h) :
  Calls Try.prog 22 #[.agg ⟨C⟩, .int .i64 q] w fun e w' => e = .returned (.int .i64 (cnt4 h q)) ∧ HOwn w' w0.heap.size ok (markHV q h) C ∧ Below w0.heap.size w0 w' ∧ Tch w w' ok:=by
 obtain ⟨vf,vb,vq,ve,o,rfl,hR⟩:=hO
 obtain ⟨a1,a2,a3,a4,a5,a6⟩:=hM.steps
 have HR:=Lib.hid hR
 have HB:=Lib.hid hB
 have HM:=Lib.hid hM
 have HIN:=Lib.hid hin
 have A1:=Lib.hid a1
 have A2:=Lib.hid a2
 have A3:=Lib.hid a3
 have A4:=Lib.hid a4
 have A5:=Lib.hid a5
 have A6:=Lib.hid a6
 clear hR hB hM a1 a2 a3 a4 a5 a6 hin
 go_enter Try.func22,Try.ntmps22
 go_upto_region 1 with (first | ((with_reducible refine gate_dst (N:=2) rfl ?_);refine box_event ?hg (N:=2) ?hd (cs:=⟨hostC h vf vb vq ve⟩) (t:=32) ?hr ?_;(case hd => rfl);(case hg => rfl);(case hr => first | (go_simp;done) | (go_simp;rfl));intro g hg w1 hbox hb;have HX1:=Lib.hid hbox;have HG:=Lib.hid hg;have HE1:=Lib.hid hb;have HR1:=Lib.hid (HR.out.below hb);have HB1:=Lib.hid (below_then HB.out HB.out.size hb);have HT1 : Hid (Tch w w1 ok):=Lib.hid (Tch.of_below ok hb);clear hbox hb hg))
 have x4 : w1.cell? ⟨g,4,none⟩ = some vf:=blk_cell HX1.out 4
 go_upto_region 2 with (first | (go_at_call 21;refine (markFilterS_v w0 w1 _ vf h.fs q HB1.out HR1.out.f HM.out.q0 A4.out).mono ?_;rintro e w2 ⟨rfl,hr,hb,hT⟩;have HR2:=Lib.hid (HR1.out.upF hT hr);have HB2:=Lib.hid hb;have HT2:=Lib.hid (HT1.out.trans (hT.mono (fun k hk => hk.1)));have HX2:=Lib.hid (hT.blk HX1.out (fun e => by have h1:=HIN.out _ e.1;have h2:=HG.out;omega));clear hr hb hT))
 clear x4
 have x5 : w2.cell? ⟨g,5,none⟩ = some vb:=blk_cell HX2.out 5
 go_upto_region 3 with (first | (go_at_call 69;refine (markBoxs_v w0 w2 _ vb h.bs (cnt1 h q) HB2.out HR2.out.b A1.out A5.out HM.out.l2 HM.out.d2).mono ?_;rintro e w3 ⟨rfl,hr,hb,hT⟩;have HR3:=Lib.hid (HR2.out.upB hT hr);have HB3:=Lib.hid hb;have HT3:=Lib.hid (HT2.out.trans (hT.mono (fun k hk => hk.1)));have HX3:=Lib.hid (hT.blk HX2.out (fun e => by have h1:=HIN.out _ e.1;have h2:=HG.out;omega));clear hr hb hT))
 clear x5
 have x6 : w3.cell? ⟨g,6,none⟩ = some vq:=blk_cell HX3.out 6
 go_upto_region 4 with (first | (go_at_call 70;refine (markFrames_v w0 w3 _ vq h.fr (cnt2 h q) HB3.out HR3.out.q A2.out A6.out HM.out.l3 HM.out.d3).mono ?_;rintro e w4 ⟨rfl,hr,hb,hT⟩;have HR4:=Lib.hid (HR3.out.upQ hT hr);have HB4:=Lib.hid hb;have HT4:=Lib.hid (HT3.out.trans (hT.mono (fun k hk => hk.1)));have HX4:=Lib.hid (hT.blk HX3.out (fun e => by have h1:=HIN.out _ e.1;have h2:=HG.out;omega));clear hr hb hT))
 clear x6
 have x7 : w4.cell? ⟨g,7,none⟩ = some ve:=blk_cell HX4.out 7
 go_upto_region 5 with (first | (go_at_call 47;refine (markEvents_v w0 w4 _ ve h.ev (cnt3 h q) HB4.out HR4.out.e A3.out HM.out.top HM.out.l4 HM.out.d4).mono ?_;rintro e w5 ⟨rfl,hr,hb,hT⟩;have HR5:=Lib.hid (HR4.out.upE hT hr);have HB5:=Lib.hid hb;have HT5:=Lib.hid (HT4.out.trans (hT.mono (fun k hk => hk.1)));have HX5:=Lib.hid (hT.blk HX4.out (fun e => by have h1:=HIN.out _ e.1;have h2:=HG.out;omega));clear hr hb hT))
 clear x7
 go_wp2_with (fail)
 go_ret
 exact ⟨rfl,⟨vf,vb,vq,ve,o,rfl,HR5.out⟩,HB5.out,HT5.out⟩
theorem markHost_v (w0 w : World) (ok : Nat → Prop) (h : HV) (C : List Value) (q : Int) (hB : Below w0.heap.size w0 w) (hO : HOwn w w0.heap.size ok h C) (hM : HMarks q h) :
  Calls Try.prog 22 #[.agg ⟨C⟩, .int .i64 q] w fun e w' => e = .returned (.int .i64 (cnt4 h q)) ∧ HOwn w' w0.heap.size ok (markHV q h) C ∧ Below w0.heap.size w0 w' ∧ Tch w w' (fun k => ok k ∧ Mine w w0.heap.size k):=by
 refine (markHost_in w0 w _ h C q hB hO.bound (fun k hk => hk.2.2.1) hM).mono ?_
 rintro e w' ⟨rfl,h1,h2,h3⟩
 exact ⟨rfl,h1.mono (fun k hk => hk.1),h2,h3⟩
theorem getD_at2 {α : Type} (l : List α) (i : Nat) (z : α) (h : i < l.length) : l[i]? = some (l.getD (i : Int).toNat z):=by rw [Int.toNat_natCast,List.getD_eq_getElem?_getD,List.getElem?_eq_getElem h];rfl
set_option maxRecDepth 100000 in
set_option maxHeartbeats 2000000 in
theorem eqFilter_v (x : S89) (w : World) :
  Calls Try.prog 68 #[.agg #[.bool x.f0, .int .u32 x.f1, .int .u32 x.f2], .agg #[.bool x.f0, .int .u32 x.f1, .int .u32 x.f2]] w fun e w' => e = .returned (.bool true) ∧ Below w.heap.size w w':=by
 have HB_0 : Hid (Below w.heap.size w w):=Lib.hid (Below.refl _ _)
 have b0 : (x.f0 != x.f0) = false:=bne_self_eq_false _
 have b1 : (x.f1 != x.f1) = false:=bne_self_eq_false _
 have b2 : (x.f2 != x.f2) = false:=bne_self_eq_false _
 go_enter Try.func68,Try.ntmps68
 go_upto_region 1 with (first | ((with_reducible refine gate_dst (N:=2) rfl ?_);refine box_event ?hg (N:=2) ?hd (cs := #[.bool x.f0, .int .u32 x.f1, .int .u32 x.f2]) (t:=89) ?hr ?_;(case hd => rfl);(case hg => rfl);(case hr => first | (go_simp;done) | (go_simp;rfl));intro g2 hg w1 hbox hb;have LO_HB_g2 : Hid (w.heap.size ≤ g2):=Lib.hid (by rw [hg];exact HB_0.out.size);have HEg2:=Lib.hid hg;have HB_1:=Lib.hid (below_then HB_0.out HB_0.out.size hb);have Xg2_1:=Lib.hid hbox;clear hg hbox hb) | ((with_reducible refine gate_dst (N:=3) rfl ?_);refine box_event ?hg (N:=3) ?hd (cs := #[.bool x.f0, .int .u32 x.f1, .int .u32 x.f2]) (t:=89) ?hr ?_;(case hd => rfl);(case hg => rfl);(case hr => first | (go_simp;done) | (go_simp;rfl));intro g3 hg w2 hbox hb;have LO_HB_g3 : Hid (w.heap.size ≤ g3):=Lib.hid (by rw [hg];exact HB_1.out.size);have NE_g2_g3 : Hid (g2 ≠ g3):=Lib.hid (fun e => by have h1:=blk_lt Xg2_1.out;omega);have HEg3:=Lib.hid hg;have HB_2:=Lib.hid (below_then HB_1.out HB_1.out.size hb);have Xg2_2:=Lib.hid (blk_below Xg2_1.out hb);have Xg3_2:=Lib.hid hbox;clear hg hbox hb))
 have x0 : w2.cell? ⟨g2,0,none⟩ = some (.bool x.f0):=blk_cell Xg2_2.out 0
 have y0 : w2.cell? ⟨g3,0,none⟩ = some (.bool x.f0):=blk_cell Xg3_2.out 0
 have x1 : w2.cell? ⟨g2,1,none⟩ = some (.int .u32 x.f1):=blk_cell Xg2_2.out 1
 have y1 : w2.cell? ⟨g3,1,none⟩ = some (.int .u32 x.f1):=blk_cell Xg3_2.out 1
 have x2 : w2.cell? ⟨g2,2,none⟩ = some (.int .u32 x.f2):=blk_cell Xg2_2.out 2
 have y2 : w2.cell? ⟨g3,2,none⟩ = some (.int .u32 x.f2):=blk_cell Xg3_2.out 2
 go_wp2_with (fail)
 go_ret
 exact ⟨rfl,HB_2.out⟩
set_option maxRecDepth 100000 in
set_option maxHeartbeats 4000000 in
theorem eqFilterS_v (l : List S89) (hl : l.length ≤ 10000000) (w : World) (A B : Option Addr) (c d : Nat) (ha : (k89).C w A l.length l) (hc : l.length ≤ c) (hb : (k89).C w B l.length l) (hd : l.length ≤ d) :
  Calls Try.prog 20 #[.slice A l.length c, .slice B l.length d] w fun e w' => e = .returned (.bool true) ∧ Below w.heap.size w w':=by
 have GA:=Lib.hid ha
 have GB:=Lib.hid hb
 have HL:=Lib.hid hl
 clear ha hb hl
 have HB_0 : Hid (Below w.heap.size w w):=Lib.hid (Below.refl _ _)
 have bl : ((l.length : Int) != (l.length : Int)) = false:=bne_self_eq_false _
 go_enter Try.func20,Try.ntmps20
 go_wp2_with (fail)
 go_loopw [5] (fun v5 wr => ∃ i : Nat,i ≤ l.length ∧ v5 = .int .i64 i ∧ Aside0 (Below w.heap.size w wr)) (fun v5 _ => l.length - (intOf v5).toNat)
 case atStart => exact ⟨0,Nat.zero_le _,rfl,⟨HB_0.out⟩⟩
 case round =>
  obtain ⟨i,hi,rfl,HB⟩:=hrel
  by_cases hlt : i < l.length
  ·have a1 : (0 : Int) ≤ (i : Int):=Int.natCast_nonneg _
   have a2 : (i : Int) < (l.length : Int):=by exact_mod_cast hlt
   obtain ⟨ad,ea,k0,k1,k2⟩:=at_T89 (Kd.C_below GA.out HB.out) (i : Int) a1 a2
   obtain ⟨be,eb,m0,m1,m2⟩:=at_T89 (Kd.C_below GB.out HB.out) (i : Int) a1 a2
   subst ea
   subst eb
   clear a1 a2
   rw [Int.toNat_natCast] at k0 k1 k2 m0 m1 m2
   obtain ⟨x,hx⟩ : ∃ x,x = rd_T89 l (i : Int):=⟨_,rfl⟩
   rw [← hx] at k0 k1 k2 m0 m1 m2
   clear hx
   have b2 : decide ((i : Int) < (l.length : Int)) = true:=decide_eq_true (by omega)
   have p5 : (0 ≤ (i : Int)) = True:=eq_true (by omega)
   have q5 : ((i : Int) < (l.length : Int)) = True:=eq_true (by omega)
   have qn : (i < l.length) = True:=eq_true hlt
   have hn : wrap64 ((i : Int) + 1) = (i : Int) + 1:=by have:=HL.out;unfold wrap64;omega
   have HLT:=Lib.hid hlt
   have HN:=Lib.hid hn
   clear hlt hi
   go_wp2_with (fail)
   have K0':=Lib.hid k0
   have K1':=Lib.hid k1
   have K2':=Lib.hid k2
   have M0':=Lib.hid m0
   have M1':=Lib.hid m1
   have M2':=Lib.hid m2
   clear k0 k1 k2 m0 m1 m2
   obtain ⟨wd,hwd⟩ : ∃ wd,wd = wr.drew:=⟨_,rfl⟩
   have HWd : Hid (Below wr.heap.size wr wd):=by rw [hwd];exact Lib.hid (below_drew (Below.refl _ _))
   refine start_ (n:=10) (S:=fun w' : World => Below wr.heap.size wr w') (ds := []) #[false,false,false,false,false,false,false,false,false,false] (by kernel_rfl) rfl rfl (hwd ▸ HWd.out) (fun hHeld => ?_)
   rw [← hwd] at hHeld ⊢
   clear hwd
   refine pure_ (i:=0) (N:=some 17) (v := ?_) (a' := ?_) #[true,false,false,false,false,false,false,false,false,false] rfl rfl (by kernel_rfl) (fun _ _ _ h => h) (Or.inl ⟨by rfl, ?_⟩) ?_ ?_
   rotate_left
   ·intro w'
    go_simp
    with_reducible rfl
   rotate_left
   ·simp only [Act.put,List.setIfInBounds_toArray,List.set_cons_zero,List.set_cons_succ,i64_w,i32_w]
    rfl
   refine pure_ (i:=1) (N:=some 18) (v := ?_) (a' := ?_) #[true,true,false,false,false,false,false,false,false,false] rfl rfl (by kernel_rfl) (fun _ _ _ h => h) (Or.inl ⟨by rfl, ?_⟩) ?_ ?_
   rotate_left
   ·intro w'
    go_simp
    with_reducible rfl
   rotate_left
   ·simp only [Act.put,List.setIfInBounds_toArray,List.set_cons_zero,List.set_cons_succ,i64_w,i32_w]
    rfl
   refine pure_ (i:=2) (N:=some 19) (v := ?_) (a' := ?_) #[true,true,true,false,false,false,false,false,false,false] rfl rfl (by kernel_rfl) (fun _ _ _ h => h) (Or.inl ⟨by rfl, ?_⟩) ?_ ?_
   rotate_left
   ·intro w'
    go_simp
    with_reducible rfl
   rotate_left
   ·simp only [Act.put,List.setIfInBounds_toArray,List.set_cons_zero,List.set_cons_succ,i64_w,i32_w]
    rfl
   refine take_ (i:=3) (N:=some 20) (v := ?_) (a' := ?_) #[true,true,true,true,false,false,false,false,false,false] rfl rfl (by kernel_rfl) (fun _ _ _ h => h) (Or.inl ⟨by rfl, ?_⟩) hHeld ?_ ?_
   rotate_left
   ·intro w' s0
    have e0:=pw_cell_below s0 K0'.out
    have e1:=pw_cell_below s0 K1'.out
    have e2:=pw_cell_below s0 K2'.out
    go_simp
    with_reducible rfl
   rotate_left
   ·simp only [Act.put,List.setIfInBounds_toArray,List.set_cons_zero,List.set_cons_succ,i64_w,i32_w]
    rfl
   refine pure_ (i:=4) (N:=some 21) (v := ?_) (a' := ?_) #[true,true,true,true,true,false,false,false,false,false] rfl rfl (by kernel_rfl) (fun _ _ _ h => h) (Or.inl ⟨by rfl, ?_⟩) ?_ ?_
   rotate_left
   ·intro w'
    go_simp
    with_reducible rfl
   rotate_left
   ·simp only [Act.put,List.setIfInBounds_toArray,List.set_cons_zero,List.set_cons_succ,i64_w,i32_w]
    rfl
   refine pure_ (i:=5) (N:=some 22) (v := ?_) (a' := ?_) #[true,true,true,true,true,true,false,false,false,false] rfl rfl (by kernel_rfl) (fun _ _ _ h => h) (Or.inl ⟨by rfl, ?_⟩) ?_ ?_
   rotate_left
   ·intro w'
    go_simp
    with_reducible rfl
   rotate_left
   ·simp only [Act.put,List.setIfInBounds_toArray,List.set_cons_zero,List.set_cons_succ,i64_w,i32_w]
    rfl
   refine pure_ (i:=6) (N:=some 23) (v := ?_) (a' := ?_) #[true,true,true,true,true,true,true,false,false,false] rfl rfl (by kernel_rfl) (fun _ _ _ h => h) (Or.inl ⟨by rfl, ?_⟩) ?_ ?_
   rotate_left
   ·intro w'
    go_simp
    with_reducible rfl
   rotate_left
   ·simp only [Act.put,List.setIfInBounds_toArray,List.set_cons_zero,List.set_cons_succ,i64_w,i32_w]
    rfl
   refine take_ (i:=7) (N:=some 24) (v := ?_) (a' := ?_) #[true,true,true,true,true,true,true,true,false,false] rfl rfl (by kernel_rfl) (fun _ _ _ h => h) (Or.inl ⟨by rfl, ?_⟩) hHeld ?_ ?_
   rotate_left
   ·intro w' s0
    have e0:=pw_cell_below s0 M0'.out
    have e1:=pw_cell_below s0 M1'.out
    have e2:=pw_cell_below s0 M2'.out
    go_simp
    with_reducible rfl
   rotate_left
   ·simp only [Act.put,List.setIfInBounds_toArray,List.set_cons_zero,List.set_cons_succ,i64_w,i32_w]
    rfl
   refine one_ (i:=8) (N:=some 25) #[true,true,true,true,true,true,true,true,true,false] rfl rfl (by kernel_rfl) (by decide) (fun K hK => ?_)
   refine goes_ Try.func68 (by kernel_rfl) rfl #[.agg #[.bool x.f0, .int .u32 x.f1, .int .u32 x.f2], .agg #[.bool x.f0, .int .u32 x.f1, .int .u32 x.f2]] (by rfl) rfl rfl (by (try simp only [List.map_toArray,List.map_cons,List.map_nil]);first | done | rfl) ?_
   refine (eqFilter_v x wd).mono ?_
   rintro e w6 ⟨rfl,hb⟩
   refine ⟨_,rfl, ?_⟩
   have HB6:=Lib.hid (below_then HWd.out HWd.out.size hb)
   clear hb
   refine hK.out _ _ HB6.out (fun hHeld => ?_)
   clear hK K
   refine norm_ (a' := ?_) ?_ ?_
   rotate_left
   ·show Act.put _ (some 25) _ = _
    simp only [Act.put,List.setIfInBounds_toArray,List.set_cons_zero,List.set_cons_succ,i64_w,i32_w]
    rfl
   refine pure_ (i:=9) (N:=some 26) (v := ?_) (a' := ?_) #[true,true,true,true,true,true,true,true,true,true] rfl rfl (by kernel_rfl) (fun _ _ _ h => h) (Or.inl ⟨by rfl, ?_⟩) ?_ ?_
   rotate_left
   ·intro w'
    go_simp
    with_reducible rfl
   rotate_left
   ·simp only [Act.put,List.setIfInBounds_toArray,List.set_cons_zero,List.set_cons_succ,i64_w,i32_w]
    rfl
   refine done_ (by kernel_rfl) ?_
   go_wp2_with (fail)
   go_roundw
   case rel => exact ⟨i + 1,HLT.out,by rw [HN.out];rfl,⟨below_then HB.out HB.out.size HB6.out⟩⟩
   case measure => rw [HN.out];have:=HLT.out;simp [intOf];omega
  ·have b2 : decide ((i : Int) < (l.length : Int)) = false:=decide_eq_false (by omega)
   go_wp2_with (fail)
   go_ret
   exact ⟨rfl,HB.out⟩
set_option maxRecDepth 100000 in
set_option maxHeartbeats 2000000 in
theorem eqFrame_v (x : S45) (w : World) (A B : Option Addr) (c d : Nat) (ha : (Kd.int .u8).C w A x.f4.length x.f4) (hc : x.f4.length ≤ c) (hb : (Kd.int .u8).C w B x.f4.length x.f4) (hd : x.f4.length ≤ d) (hl : x.f4.length ≤ 10000000) :
  Calls Try.prog 55 #[.agg #[.bool x.f0, .int .u32 x.f1, .bool x.f2, .int .i64 x.f3, .slice A x.f4.length c], .agg #[.bool x.f0, .int .u32 x.f1, .bool x.f2, .int .i64 x.f3, .slice B x.f4.length d]] w fun e w' => e = .returned (.bool true) ∧ Below w.heap.size w w':=by
 have GA:=Lib.hid ha
 have LA:=Lib.hid hc
 have GB:=Lib.hid hb
 have LB:=Lib.hid hd
 have HL:=Lib.hid hl
 clear ha hc hb hd hl
 have HB_0 : Hid (Below w.heap.size w w):=Lib.hid (Below.refl _ _)
 have b0 : (x.f0 != x.f0) = false:=bne_self_eq_false _
 have b1 : (x.f1 != x.f1) = false:=bne_self_eq_false _
 have b2 : (x.f2 != x.f2) = false:=bne_self_eq_false _
 have b3 : (x.f3 != x.f3) = false:=bne_self_eq_false _
 go_enter Try.func55,Try.ntmps55
 go_upto_region 1 with (first | ((with_reducible refine gate_dst (N:=2) rfl ?_);refine box_event ?hg (N:=2) ?hd (cs := #[.bool x.f0, .int .u32 x.f1, .bool x.f2, .int .i64 x.f3, .slice A x.f4.length c]) (t:=45) ?hr ?_;(case hd => rfl);(case hg => rfl);(case hr => first | (go_simp;done) | (go_simp;rfl));intro g2 hg w1 hbox hb;have LO_HB_g2 : Hid (w.heap.size ≤ g2):=Lib.hid (by rw [hg];exact HB_0.out.size);have HEg2:=Lib.hid hg;have HB_1:=Lib.hid (below_then HB_0.out HB_0.out.size hb);have Xg2_1:=Lib.hid hbox;clear hg hbox hb) | ((with_reducible refine gate_dst (N:=3) rfl ?_);refine box_event ?hg (N:=3) ?hd (cs := #[.bool x.f0, .int .u32 x.f1, .bool x.f2, .int .i64 x.f3, .slice B x.f4.length d]) (t:=45) ?hr ?_;(case hd => rfl);(case hg => rfl);(case hr => first | (go_simp;done) | (go_simp;rfl));intro g3 hg w2 hbox hb;have LO_HB_g3 : Hid (w.heap.size ≤ g3):=Lib.hid (by rw [hg];exact HB_1.out.size);have NE_g2_g3 : Hid (g2 ≠ g3):=Lib.hid (fun e => by have h1:=blk_lt Xg2_1.out;omega);have HEg3:=Lib.hid hg;have HB_2:=Lib.hid (below_then HB_1.out HB_1.out.size hb);have Xg2_2:=Lib.hid (blk_below Xg2_1.out hb);have Xg3_2:=Lib.hid hbox;clear hg hbox hb))
 have x0 : w2.cell? ⟨g2,0,none⟩ = some (.bool x.f0):=blk_cell Xg2_2.out 0
 have y0 : w2.cell? ⟨g3,0,none⟩ = some (.bool x.f0):=blk_cell Xg3_2.out 0
 have x1 : w2.cell? ⟨g2,1,none⟩ = some (.int .u32 x.f1):=blk_cell Xg2_2.out 1
 have y1 : w2.cell? ⟨g3,1,none⟩ = some (.int .u32 x.f1):=blk_cell Xg3_2.out 1
 have x2 : w2.cell? ⟨g2,2,none⟩ = some (.bool x.f2):=blk_cell Xg2_2.out 2
 have y2 : w2.cell? ⟨g3,2,none⟩ = some (.bool x.f2):=blk_cell Xg3_2.out 2
 have x3 : w2.cell? ⟨g2,3,none⟩ = some (.int .i64 x.f3):=blk_cell Xg2_2.out 3
 have y3 : w2.cell? ⟨g3,3,none⟩ = some (.int .i64 x.f3):=blk_cell Xg3_2.out 3
 have x4 : w2.cell? ⟨g2,4,none⟩ = some (.slice A x.f4.length c):=blk_cell Xg2_2.out 4
 have y4 : w2.cell? ⟨g3,4,none⟩ = some (.slice B x.f4.length d):=blk_cell Xg3_2.out 4
 go_wp2_with (first | (go_at_call 107;obtain ⟨k,hk⟩:=(eqByteS_ev x.f4 HL.out).rounds;refine (laws_eqByteS.calls k A c x.f4 B d x.f4 true w2 (Kd.C_below GA.out HB_2.out) LA.out (Kd.C_below GB.out HB_2.out) LB.out hk).mono ?_;rintro e w3 ⟨rfl,hb0⟩;have hb:=hb0.below;have HB_3:=Lib.hid (below_then HB_2.out HB_2.out.size hb);have Xg2_3:=Lib.hid (blk_below Xg2_2.out hb);have Xg3_3:=Lib.hid (blk_below Xg3_2.out hb);clear hb hb0 hk))
 go_ret
 exact ⟨rfl,HB_3.out⟩
set_option maxRecDepth 100000 in
set_option maxHeartbeats 4000000 in
theorem eqFrameS_v (l : List S45) (hl : l.length ≤ 10000000) (hdd : ∀ y ∈ l,y.f4.length ≤ 10000000) (w : World) (A B : Option Addr) (c d : Nat) (ha : (k45).C w A l.length l) (hc : l.length ≤ c) (hb : (k45).C w B l.length l) (hd : l.length ≤ d) :
  Calls Try.prog 67 #[.slice A l.length c, .slice B l.length d] w fun e w' => e = .returned (.bool true) ∧ Below w.heap.size w w':=by
 have GA:=Lib.hid ha
 have GB:=Lib.hid hb
 have HL:=Lib.hid hl
 have HD:=Lib.hid hdd
 clear ha hb hl hdd
 have HB_0 : Hid (Below w.heap.size w w):=Lib.hid (Below.refl _ _)
 have bl : ((l.length : Int) != (l.length : Int)) = false:=bne_self_eq_false _
 go_enter Try.func67,Try.ntmps67
 go_wp2_with (fail)
 go_loopw [5] (fun v5 wr => ∃ i : Nat,i ≤ l.length ∧ v5 = .int .i64 i ∧ Aside0 (Below w.heap.size w wr)) (fun v5 _ => l.length - (intOf v5).toNat)
 case atStart => exact ⟨0,Nat.zero_le _,rfl,⟨HB_0.out⟩⟩
 case round =>
  obtain ⟨i,hi,rfl,HB⟩:=hrel
  by_cases hlt : i < l.length
  ·have a1 : (0 : Int) ≤ (i : Int):=Int.natCast_nonneg _
   have a2 : (i : Int) < (l.length : Int):=by exact_mod_cast hlt
   obtain ⟨ad,A8,c8,ea,k0,k1,k2,k3,k4,l8,g8⟩:=at_T45 (Kd.C_below GA.out HB.out) (i : Int) a1 a2
   obtain ⟨be,B8,d8,eb,m0,m1,m2,m3,m4,l9,g9⟩:=at_T45 (Kd.C_below GB.out HB.out) (i : Int) a1 a2
   subst ea
   subst eb
   clear a1 a2
   rw [Int.toNat_natCast] at k0 k1 k2 k3 k4 m0 m1 m2 m3 m4
   obtain ⟨x,hx⟩ : ∃ x,x = rd_T45 l (i : Int):=⟨_,rfl⟩
   rw [← hx] at k0 k1 k2 k3 k4 m0 m1 m2 m3 m4 l8 g8 l9 g9
   have HDX : Hid (x.f4.length ≤ 10000000):=Lib.hid (by rw [hx];exact HD.out _ (List.mem_of_getElem? (getD_at2 l i z45 hlt)))
   have L8:=Lib.hid l8
   have G8:=Lib.hid g8
   have L9:=Lib.hid l9
   have G9:=Lib.hid g9
   clear l8 g8 l9 g9
   clear hx
   have b2 : decide ((i : Int) < (l.length : Int)) = true:=decide_eq_true (by omega)
   have p5 : (0 ≤ (i : Int)) = True:=eq_true (by omega)
   have q5 : ((i : Int) < (l.length : Int)) = True:=eq_true (by omega)
   have qn : (i < l.length) = True:=eq_true hlt
   have hn : wrap64 ((i : Int) + 1) = (i : Int) + 1:=by have:=HL.out;unfold wrap64;omega
   have HLT:=Lib.hid hlt
   have HN:=Lib.hid hn
   clear hlt hi
   go_wp2_with (fail)
   have K0':=Lib.hid k0
   have K1':=Lib.hid k1
   have K2':=Lib.hid k2
   have K3':=Lib.hid k3
   have K4':=Lib.hid k4
   have M0':=Lib.hid m0
   have M1':=Lib.hid m1
   have M2':=Lib.hid m2
   have M3':=Lib.hid m3
   have M4':=Lib.hid m4
   clear k0 k1 k2 k3 k4 m0 m1 m2 m3 m4
   obtain ⟨wd,hwd⟩ : ∃ wd,wd = wr.drew:=⟨_,rfl⟩
   have HWd : Hid (Below wr.heap.size wr wd):=by rw [hwd];exact Lib.hid (below_drew (Below.refl _ _))
   refine start_ (n:=10) (S:=fun w' : World => Below wr.heap.size wr w') (ds := []) #[false,false,false,false,false,false,false,false,false,false] (by kernel_rfl) rfl rfl (hwd ▸ HWd.out) (fun hHeld => ?_)
   rw [← hwd] at hHeld ⊢
   clear hwd
   refine pure_ (i:=0) (N:=some 17) (v := ?_) (a' := ?_) #[true,false,false,false,false,false,false,false,false,false] rfl rfl (by kernel_rfl) (fun _ _ _ h => h) (Or.inl ⟨by rfl, ?_⟩) ?_ ?_
   rotate_left
   ·intro w'
    go_simp
    with_reducible rfl
   rotate_left
   ·simp only [Act.put,List.setIfInBounds_toArray,List.set_cons_zero,List.set_cons_succ,i64_w,i32_w]
    rfl
   refine pure_ (i:=1) (N:=some 18) (v := ?_) (a' := ?_) #[true,true,false,false,false,false,false,false,false,false] rfl rfl (by kernel_rfl) (fun _ _ _ h => h) (Or.inl ⟨by rfl, ?_⟩) ?_ ?_
   rotate_left
   ·intro w'
    go_simp
    with_reducible rfl
   rotate_left
   ·simp only [Act.put,List.setIfInBounds_toArray,List.set_cons_zero,List.set_cons_succ,i64_w,i32_w]
    rfl
   refine pure_ (i:=2) (N:=some 19) (v := ?_) (a' := ?_) #[true,true,true,false,false,false,false,false,false,false] rfl rfl (by kernel_rfl) (fun _ _ _ h => h) (Or.inl ⟨by rfl, ?_⟩) ?_ ?_
   rotate_left
   ·intro w'
    go_simp
    with_reducible rfl
   rotate_left
   ·simp only [Act.put,List.setIfInBounds_toArray,List.set_cons_zero,List.set_cons_succ,i64_w,i32_w]
    rfl
   refine take_ (i:=3) (N:=some 20) (v := ?_) (a' := ?_) #[true,true,true,true,false,false,false,false,false,false] rfl rfl (by kernel_rfl) (fun _ _ _ h => h) (Or.inl ⟨by rfl, ?_⟩) hHeld ?_ ?_
   rotate_left
   ·intro w' s0
    have e0:=pw_cell_below s0 K0'.out
    have e1:=pw_cell_below s0 K1'.out
    have e2:=pw_cell_below s0 K2'.out
    have e3:=pw_cell_below s0 K3'.out
    have e4:=pw_cell_below s0 K4'.out
    go_simp
    with_reducible rfl
   rotate_left
   ·simp only [Act.put,List.setIfInBounds_toArray,List.set_cons_zero,List.set_cons_succ,i64_w,i32_w]
    rfl
   refine pure_ (i:=4) (N:=some 21) (v := ?_) (a' := ?_) #[true,true,true,true,true,false,false,false,false,false] rfl rfl (by kernel_rfl) (fun _ _ _ h => h) (Or.inl ⟨by rfl, ?_⟩) ?_ ?_
   rotate_left
   ·intro w'
    go_simp
    with_reducible rfl
   rotate_left
   ·simp only [Act.put,List.setIfInBounds_toArray,List.set_cons_zero,List.set_cons_succ,i64_w,i32_w]
    rfl
   refine pure_ (i:=5) (N:=some 22) (v := ?_) (a' := ?_) #[true,true,true,true,true,true,false,false,false,false] rfl rfl (by kernel_rfl) (fun _ _ _ h => h) (Or.inl ⟨by rfl, ?_⟩) ?_ ?_
   rotate_left
   ·intro w'
    go_simp
    with_reducible rfl
   rotate_left
   ·simp only [Act.put,List.setIfInBounds_toArray,List.set_cons_zero,List.set_cons_succ,i64_w,i32_w]
    rfl
   refine pure_ (i:=6) (N:=some 23) (v := ?_) (a' := ?_) #[true,true,true,true,true,true,true,false,false,false] rfl rfl (by kernel_rfl) (fun _ _ _ h => h) (Or.inl ⟨by rfl, ?_⟩) ?_ ?_
   rotate_left
   ·intro w'
    go_simp
    with_reducible rfl
   rotate_left
   ·simp only [Act.put,List.setIfInBounds_toArray,List.set_cons_zero,List.set_cons_succ,i64_w,i32_w]
    rfl
   refine take_ (i:=7) (N:=some 24) (v := ?_) (a' := ?_) #[true,true,true,true,true,true,true,true,false,false] rfl rfl (by kernel_rfl) (fun _ _ _ h => h) (Or.inl ⟨by rfl, ?_⟩) hHeld ?_ ?_
   rotate_left
   ·intro w' s0
    have e0:=pw_cell_below s0 M0'.out
    have e1:=pw_cell_below s0 M1'.out
    have e2:=pw_cell_below s0 M2'.out
    have e3:=pw_cell_below s0 M3'.out
    have e4:=pw_cell_below s0 M4'.out
    go_simp
    with_reducible rfl
   rotate_left
   ·simp only [Act.put,List.setIfInBounds_toArray,List.set_cons_zero,List.set_cons_succ,i64_w,i32_w]
    rfl
   refine one_ (i:=8) (N:=some 25) #[true,true,true,true,true,true,true,true,true,false] rfl rfl (by kernel_rfl) (by decide) (fun K hK => ?_)
   refine goes_ Try.func55 (by kernel_rfl) rfl #[.agg #[.bool x.f0, .int .u32 x.f1, .bool x.f2, .int .i64 x.f3, .slice A8 x.f4.length c8], .agg #[.bool x.f0, .int .u32 x.f1, .bool x.f2, .int .i64 x.f3, .slice B8 x.f4.length d8]] (by rfl) rfl rfl (by (try simp only [List.map_toArray,List.map_cons,List.map_nil]);first | done | rfl) ?_
   refine (eqFrame_v x wd A8 B8 c8 d8 (Kd.C_below G8.out HWd.out) L8.out (Kd.C_below G9.out HWd.out) L9.out HDX.out).mono ?_
   rintro e w6 ⟨rfl,hb⟩
   refine ⟨_,rfl, ?_⟩
   have HB6:=Lib.hid (below_then HWd.out HWd.out.size hb)
   clear hb
   refine hK.out _ _ HB6.out (fun hHeld => ?_)
   clear hK K
   refine norm_ (a' := ?_) ?_ ?_
   rotate_left
   ·show Act.put _ (some 25) _ = _
    simp only [Act.put,List.setIfInBounds_toArray,List.set_cons_zero,List.set_cons_succ,i64_w,i32_w]
    rfl
   refine pure_ (i:=9) (N:=some 26) (v := ?_) (a' := ?_) #[true,true,true,true,true,true,true,true,true,true] rfl rfl (by kernel_rfl) (fun _ _ _ h => h) (Or.inl ⟨by rfl, ?_⟩) ?_ ?_
   rotate_left
   ·intro w'
    go_simp
    with_reducible rfl
   rotate_left
   ·simp only [Act.put,List.setIfInBounds_toArray,List.set_cons_zero,List.set_cons_succ,i64_w,i32_w]
    rfl
   refine done_ (by kernel_rfl) ?_
   go_wp2_with (fail)
   go_roundw
   case rel => exact ⟨i + 1,HLT.out,by rw [HN.out];rfl,⟨below_then HB.out HB.out.size HB6.out⟩⟩
   case measure => rw [HN.out];have:=HLT.out;simp [intOf];omega
  ·have b2 : decide ((i : Int) < (l.length : Int)) = false:=decide_eq_false (by omega)
   go_wp2_with (fail)
   go_ret
   exact ⟨rfl,HB.out⟩
set_option maxRecDepth 100000 in
set_option maxHeartbeats 2000000 in
theorem eqBox_v (x : S87) (w : World) (A B : Option Addr) (c d : Nat) (ha : (Kd.int .u8).C w A x.f3.f4.length x.f3.f4) (hc : x.f3.f4.length ≤ c) (hb : (Kd.int .u8).C w B x.f3.f4.length x.f3.f4) (hd : x.f3.f4.length ≤ d) (hl : x.f3.f4.length ≤ 10000000) :
  Calls Try.prog 112 #[.agg #[.int .i64 x.f0, .int .i64 x.f1, .int .i64 x.f2, .bool x.f3.f0, .int .u32 x.f3.f1, .bool x.f3.f2, .int .i64 x.f3.f3, .slice A x.f3.f4.length c], .agg #[.int .i64 x.f0, .int .i64 x.f1, .int .i64 x.f2, .bool x.f3.f0, .int .u32 x.f3.f1, .bool x.f3.f2, .int .i64 x.f3.f3, .slice B x.f3.f4.length d]] w fun e w' => e = .returned (.bool true) ∧ Below w.heap.size w w':=by
 have GA:=Lib.hid ha
 have LA:=Lib.hid hc
 have GB:=Lib.hid hb
 have LB:=Lib.hid hd
 have HL:=Lib.hid hl
 clear ha hc hb hd hl
 have HB_0 : Hid (Below w.heap.size w w):=Lib.hid (Below.refl _ _)
 have b0 : (x.f0 != x.f0) = false:=bne_self_eq_false _
 have b1 : (x.f1 != x.f1) = false:=bne_self_eq_false _
 have b2 : (x.f2 != x.f2) = false:=bne_self_eq_false _
 go_enter Try.func112,Try.ntmps112
 go_upto_region 1 with (first | ((with_reducible refine gate_dst (N:=2) rfl ?_);refine box_event ?hg (N:=2) ?hd (cs := #[.int .i64 x.f0, .int .i64 x.f1, .int .i64 x.f2, .bool x.f3.f0, .int .u32 x.f3.f1, .bool x.f3.f2, .int .i64 x.f3.f3, .slice A x.f3.f4.length c]) (t:=87) ?hr ?_;(case hd => rfl);(case hg => rfl);(case hr => first | (go_simp;done) | (go_simp;rfl));intro g2 hg w1 hbox hb;have LO_HB_g2 : Hid (w.heap.size ≤ g2):=Lib.hid (by rw [hg];exact HB_0.out.size);have HEg2:=Lib.hid hg;have HB_1:=Lib.hid (below_then HB_0.out HB_0.out.size hb);have Xg2_1:=Lib.hid hbox;clear hg hbox hb) | ((with_reducible refine gate_dst (N:=3) rfl ?_);refine box_event ?hg (N:=3) ?hd (cs := #[.int .i64 x.f0, .int .i64 x.f1, .int .i64 x.f2, .bool x.f3.f0, .int .u32 x.f3.f1, .bool x.f3.f2, .int .i64 x.f3.f3, .slice B x.f3.f4.length d]) (t:=87) ?hr ?_;(case hd => rfl);(case hg => rfl);(case hr => first | (go_simp;done) | (go_simp;rfl));intro g3 hg w2 hbox hb;have LO_HB_g3 : Hid (w.heap.size ≤ g3):=Lib.hid (by rw [hg];exact HB_1.out.size);have NE_g2_g3 : Hid (g2 ≠ g3):=Lib.hid (fun e => by have h1:=blk_lt Xg2_1.out;omega);have HEg3:=Lib.hid hg;have HB_2:=Lib.hid (below_then HB_1.out HB_1.out.size hb);have Xg2_2:=Lib.hid (blk_below Xg2_1.out hb);have Xg3_2:=Lib.hid hbox;clear hg hbox hb))
 have x0 : w2.cell? ⟨g2,0,none⟩ = some (.int .i64 x.f0):=blk_cell Xg2_2.out 0
 have y0 : w2.cell? ⟨g3,0,none⟩ = some (.int .i64 x.f0):=blk_cell Xg3_2.out 0
 have x1 : w2.cell? ⟨g2,1,none⟩ = some (.int .i64 x.f1):=blk_cell Xg2_2.out 1
 have y1 : w2.cell? ⟨g3,1,none⟩ = some (.int .i64 x.f1):=blk_cell Xg3_2.out 1
 have x2 : w2.cell? ⟨g2,2,none⟩ = some (.int .i64 x.f2):=blk_cell Xg2_2.out 2
 have y2 : w2.cell? ⟨g3,2,none⟩ = some (.int .i64 x.f2):=blk_cell Xg3_2.out 2
 have x3 : w2.cell? ⟨g2,3,none⟩ = some (.bool x.f3.f0):=blk_cell Xg2_2.out 3
 have y3 : w2.cell? ⟨g3,3,none⟩ = some (.bool x.f3.f0):=blk_cell Xg3_2.out 3
 have x4 : w2.cell? ⟨g2,4,none⟩ = some (.int .u32 x.f3.f1):=blk_cell Xg2_2.out 4
 have y4 : w2.cell? ⟨g3,4,none⟩ = some (.int .u32 x.f3.f1):=blk_cell Xg3_2.out 4
 have x5 : w2.cell? ⟨g2,5,none⟩ = some (.bool x.f3.f2):=blk_cell Xg2_2.out 5
 have y5 : w2.cell? ⟨g3,5,none⟩ = some (.bool x.f3.f2):=blk_cell Xg3_2.out 5
 have x6 : w2.cell? ⟨g2,6,none⟩ = some (.int .i64 x.f3.f3):=blk_cell Xg2_2.out 6
 have y6 : w2.cell? ⟨g3,6,none⟩ = some (.int .i64 x.f3.f3):=blk_cell Xg3_2.out 6
 have x7 : w2.cell? ⟨g2,7,none⟩ = some (.slice A x.f3.f4.length c):=blk_cell Xg2_2.out 7
 have y7 : w2.cell? ⟨g3,7,none⟩ = some (.slice B x.f3.f4.length d):=blk_cell Xg3_2.out 7
 go_wp2_with (first | (go_at_call 55;refine (eqFrame_v x.f3 w2 A B c d (Kd.C_below GA.out HB_2.out) LA.out (Kd.C_below GB.out HB_2.out) LB.out HL.out).mono ?_;rintro e w3 ⟨rfl,hb⟩;have HB_3:=Lib.hid (below_then HB_2.out HB_2.out.size hb);have Xg2_3:=Lib.hid (blk_below Xg2_2.out hb);have Xg3_3:=Lib.hid (blk_below Xg3_2.out hb);clear hb))
 go_ret
 exact ⟨rfl,HB_3.out⟩
set_option maxRecDepth 100000 in
set_option maxHeartbeats 4000000 in
theorem eqBoxS_v (l : List S87) (hl : l.length ≤ 10000000) (hdd : ∀ y ∈ l,y.f3.f4.length ≤ 10000000) (w : World) (A B : Option Addr) (c d : Nat) (ha : (k87).C w A l.length l) (hc : l.length ≤ c) (hb : (k87).C w B l.length l) (hd : l.length ≤ d) :
  Calls Try.prog 66 #[.slice A l.length c, .slice B l.length d] w fun e w' => e = .returned (.bool true) ∧ Below w.heap.size w w':=by
 have GA:=Lib.hid ha
 have GB:=Lib.hid hb
 have HL:=Lib.hid hl
 have HD:=Lib.hid hdd
 clear ha hb hl hdd
 have HB_0 : Hid (Below w.heap.size w w):=Lib.hid (Below.refl _ _)
 have bl : ((l.length : Int) != (l.length : Int)) = false:=bne_self_eq_false _
 go_enter Try.func66,Try.ntmps66
 go_wp2_with (fail)
 go_loopw [5] (fun v5 wr => ∃ i : Nat,i ≤ l.length ∧ v5 = .int .i64 i ∧ Aside0 (Below w.heap.size w wr)) (fun v5 _ => l.length - (intOf v5).toNat)
 case atStart => exact ⟨0,Nat.zero_le _,rfl,⟨HB_0.out⟩⟩
 case round =>
  obtain ⟨i,hi,rfl,HB⟩:=hrel
  by_cases hlt : i < l.length
  ·have a1 : (0 : Int) ≤ (i : Int):=Int.natCast_nonneg _
   have a2 : (i : Int) < (l.length : Int):=by exact_mod_cast hlt
   obtain ⟨ad,A8,c8,ea,k0,k1,k2,k3,k4,k5,k6,k7,l8,g8⟩:=at_T87 (Kd.C_below GA.out HB.out) (i : Int) a1 a2
   obtain ⟨be,B8,d8,eb,m0,m1,m2,m3,m4,m5,m6,m7,l9,g9⟩:=at_T87 (Kd.C_below GB.out HB.out) (i : Int) a1 a2
   subst ea
   subst eb
   clear a1 a2
   rw [Int.toNat_natCast] at k0 k1 k2 k3 k4 k5 k6 k7 m0 m1 m2 m3 m4 m5 m6 m7
   obtain ⟨x,hx⟩ : ∃ x,x = rd_T87 l (i : Int):=⟨_,rfl⟩
   rw [← hx] at k0 k1 k2 k3 k4 k5 k6 k7 m0 m1 m2 m3 m4 m5 m6 m7 l8 g8 l9 g9
   have HDX : Hid (x.f3.f4.length ≤ 10000000):=Lib.hid (by rw [hx];exact HD.out _ (List.mem_of_getElem? (getD_at2 l i z87 hlt)))
   have L8:=Lib.hid l8
   have G8:=Lib.hid g8
   have L9:=Lib.hid l9
   have G9:=Lib.hid g9
   clear l8 g8 l9 g9
   clear hx
   have b2 : decide ((i : Int) < (l.length : Int)) = true:=decide_eq_true (by omega)
   have p5 : (0 ≤ (i : Int)) = True:=eq_true (by omega)
   have q5 : ((i : Int) < (l.length : Int)) = True:=eq_true (by omega)
   have qn : (i < l.length) = True:=eq_true hlt
   have hn : wrap64 ((i : Int) + 1) = (i : Int) + 1:=by have:=HL.out;unfold wrap64;omega
   have HLT:=Lib.hid hlt
   have HN:=Lib.hid hn
   clear hlt hi
   go_wp2_with (fail)
   have K0':=Lib.hid k0
   have K1':=Lib.hid k1
   have K2':=Lib.hid k2
   have K3':=Lib.hid k3
   have K4':=Lib.hid k4
   have K5':=Lib.hid k5
   have K6':=Lib.hid k6
   have K7':=Lib.hid k7
   have M0':=Lib.hid m0
   have M1':=Lib.hid m1
   have M2':=Lib.hid m2
   have M3':=Lib.hid m3
   have M4':=Lib.hid m4
   have M5':=Lib.hid m5
   have M6':=Lib.hid m6
   have M7':=Lib.hid m7
   clear k0 k1 k2 k3 k4 k5 k6 k7 m0 m1 m2 m3 m4 m5 m6 m7
   obtain ⟨wd,hwd⟩ : ∃ wd,wd = wr.drew:=⟨_,rfl⟩
   have HWd : Hid (Below wr.heap.size wr wd):=by rw [hwd];exact Lib.hid (below_drew (Below.refl _ _))
   refine start_ (n:=10) (S:=fun w' : World => Below wr.heap.size wr w') (ds := []) #[false,false,false,false,false,false,false,false,false,false] (by kernel_rfl) rfl rfl (hwd ▸ HWd.out) (fun hHeld => ?_)
   rw [← hwd] at hHeld ⊢
   clear hwd
   refine pure_ (i:=0) (N:=some 17) (v := ?_) (a' := ?_) #[true,false,false,false,false,false,false,false,false,false] rfl rfl (by kernel_rfl) (fun _ _ _ h => h) (Or.inl ⟨by rfl, ?_⟩) ?_ ?_
   rotate_left
   ·intro w'
    go_simp
    with_reducible rfl
   rotate_left
   ·simp only [Act.put,List.setIfInBounds_toArray,List.set_cons_zero,List.set_cons_succ,i64_w,i32_w]
    rfl
   refine pure_ (i:=1) (N:=some 18) (v := ?_) (a' := ?_) #[true,true,false,false,false,false,false,false,false,false] rfl rfl (by kernel_rfl) (fun _ _ _ h => h) (Or.inl ⟨by rfl, ?_⟩) ?_ ?_
   rotate_left
   ·intro w'
    go_simp
    with_reducible rfl
   rotate_left
   ·simp only [Act.put,List.setIfInBounds_toArray,List.set_cons_zero,List.set_cons_succ,i64_w,i32_w]
    rfl
   refine pure_ (i:=2) (N:=some 19) (v := ?_) (a' := ?_) #[true,true,true,false,false,false,false,false,false,false] rfl rfl (by kernel_rfl) (fun _ _ _ h => h) (Or.inl ⟨by rfl, ?_⟩) ?_ ?_
   rotate_left
   ·intro w'
    go_simp
    with_reducible rfl
   rotate_left
   ·simp only [Act.put,List.setIfInBounds_toArray,List.set_cons_zero,List.set_cons_succ,i64_w,i32_w]
    rfl
   refine take_ (i:=3) (N:=some 20) (v := ?_) (a' := ?_) #[true,true,true,true,false,false,false,false,false,false] rfl rfl (by kernel_rfl) (fun _ _ _ h => h) (Or.inl ⟨by rfl, ?_⟩) hHeld ?_ ?_
   rotate_left
   ·intro w' s0
    have e0:=pw_cell_below s0 K0'.out
    have e1:=pw_cell_below s0 K1'.out
    have e2:=pw_cell_below s0 K2'.out
    have e3:=pw_cell_below s0 K3'.out
    have e4:=pw_cell_below s0 K4'.out
    have e5:=pw_cell_below s0 K5'.out
    have e6:=pw_cell_below s0 K6'.out
    have e7:=pw_cell_below s0 K7'.out
    go_simp
    with_reducible rfl
   rotate_left
   ·simp only [Act.put,List.setIfInBounds_toArray,List.set_cons_zero,List.set_cons_succ,i64_w,i32_w]
    rfl
   refine pure_ (i:=4) (N:=some 21) (v := ?_) (a' := ?_) #[true,true,true,true,true,false,false,false,false,false] rfl rfl (by kernel_rfl) (fun _ _ _ h => h) (Or.inl ⟨by rfl, ?_⟩) ?_ ?_
   rotate_left
   ·intro w'
    go_simp
    with_reducible rfl
   rotate_left
   ·simp only [Act.put,List.setIfInBounds_toArray,List.set_cons_zero,List.set_cons_succ,i64_w,i32_w]
    rfl
   refine pure_ (i:=5) (N:=some 22) (v := ?_) (a' := ?_) #[true,true,true,true,true,true,false,false,false,false] rfl rfl (by kernel_rfl) (fun _ _ _ h => h) (Or.inl ⟨by rfl, ?_⟩) ?_ ?_
   rotate_left
   ·intro w'
    go_simp
    with_reducible rfl
   rotate_left
   ·simp only [Act.put,List.setIfInBounds_toArray,List.set_cons_zero,List.set_cons_succ,i64_w,i32_w]
    rfl
   refine pure_ (i:=6) (N:=some 23) (v := ?_) (a' := ?_) #[true,true,true,true,true,true,true,false,false,false] rfl rfl (by kernel_rfl) (fun _ _ _ h => h) (Or.inl ⟨by rfl, ?_⟩) ?_ ?_
   rotate_left
   ·intro w'
    go_simp
    with_reducible rfl
   rotate_left
   ·simp only [Act.put,List.setIfInBounds_toArray,List.set_cons_zero,List.set_cons_succ,i64_w,i32_w]
    rfl
   refine take_ (i:=7) (N:=some 24) (v := ?_) (a' := ?_) #[true,true,true,true,true,true,true,true,false,false] rfl rfl (by kernel_rfl) (fun _ _ _ h => h) (Or.inl ⟨by rfl, ?_⟩) hHeld ?_ ?_
   rotate_left
   ·intro w' s0
    have e0:=pw_cell_below s0 M0'.out
    have e1:=pw_cell_below s0 M1'.out
    have e2:=pw_cell_below s0 M2'.out
    have e3:=pw_cell_below s0 M3'.out
    have e4:=pw_cell_below s0 M4'.out
    have e5:=pw_cell_below s0 M5'.out
    have e6:=pw_cell_below s0 M6'.out
    have e7:=pw_cell_below s0 M7'.out
    go_simp
    with_reducible rfl
   rotate_left
   ·simp only [Act.put,List.setIfInBounds_toArray,List.set_cons_zero,List.set_cons_succ,i64_w,i32_w]
    rfl
   refine one_ (i:=8) (N:=some 25) #[true,true,true,true,true,true,true,true,true,false] rfl rfl (by kernel_rfl) (by decide) (fun K hK => ?_)
   refine goes_ Try.func112 (by kernel_rfl) rfl #[.agg #[.int .i64 x.f0, .int .i64 x.f1, .int .i64 x.f2, .bool x.f3.f0, .int .u32 x.f3.f1, .bool x.f3.f2, .int .i64 x.f3.f3, .slice A8 x.f3.f4.length c8], .agg #[.int .i64 x.f0, .int .i64 x.f1, .int .i64 x.f2, .bool x.f3.f0, .int .u32 x.f3.f1, .bool x.f3.f2, .int .i64 x.f3.f3, .slice B8 x.f3.f4.length d8]] (by rfl) rfl rfl (by (try simp only [List.map_toArray,List.map_cons,List.map_nil]);first | done | rfl) ?_
   refine (eqBox_v x wd A8 B8 c8 d8 (Kd.C_below G8.out HWd.out) L8.out (Kd.C_below G9.out HWd.out) L9.out HDX.out).mono ?_
   rintro e w6 ⟨rfl,hb⟩
   refine ⟨_,rfl, ?_⟩
   have HB6:=Lib.hid (below_then HWd.out HWd.out.size hb)
   clear hb
   refine hK.out _ _ HB6.out (fun hHeld => ?_)
   clear hK K
   refine norm_ (a' := ?_) ?_ ?_
   rotate_left
   ·show Act.put _ (some 25) _ = _
    simp only [Act.put,List.setIfInBounds_toArray,List.set_cons_zero,List.set_cons_succ,i64_w,i32_w]
    rfl
   refine pure_ (i:=9) (N:=some 26) (v := ?_) (a' := ?_) #[true,true,true,true,true,true,true,true,true,true] rfl rfl (by kernel_rfl) (fun _ _ _ h => h) (Or.inl ⟨by rfl, ?_⟩) ?_ ?_
   rotate_left
   ·intro w'
    go_simp
    with_reducible rfl
   rotate_left
   ·simp only [Act.put,List.setIfInBounds_toArray,List.set_cons_zero,List.set_cons_succ,i64_w,i32_w]
    rfl
   refine done_ (by kernel_rfl) ?_
   go_wp2_with (fail)
   go_roundw
   case rel => exact ⟨i + 1,HLT.out,by rw [HN.out];rfl,⟨below_then HB.out HB.out.size HB6.out⟩⟩
   case measure => rw [HN.out];have:=HLT.out;simp [intOf];omega
  ·have b2 : decide ((i : Int) < (l.length : Int)) = false:=decide_eq_false (by omega)
   go_wp2_with (fail)
   go_ret
   exact ⟨rfl,HB.out⟩
set_option maxRecDepth 100000 in
set_option maxHeartbeats 2000000 in
theorem eqEvent_v (x : S56) (w : World) (A B : Option Addr) (c d : Nat) (ha : (Kd.int .u8).C w A x.f3.f4.length x.f3.f4) (hc : x.f3.f4.length ≤ c) (hb : (Kd.int .u8).C w B x.f3.f4.length x.f3.f4) (hd : x.f3.f4.length ≤ d) (hl : x.f3.f4.length ≤ 10000000) :
  Calls Try.prog 98 #[.agg #[.int .i64 x.f0, .int .i64 x.f1, .int .i64 x.f2, .bool x.f3.f0, .int .u32 x.f3.f1, .bool x.f3.f2, .int .i64 x.f3.f3, .slice A x.f3.f4.length c], .agg #[.int .i64 x.f0, .int .i64 x.f1, .int .i64 x.f2, .bool x.f3.f0, .int .u32 x.f3.f1, .bool x.f3.f2, .int .i64 x.f3.f3, .slice B x.f3.f4.length d]] w fun e w' => e = .returned (.bool true) ∧ Below w.heap.size w w':=by
 have GA:=Lib.hid ha
 have LA:=Lib.hid hc
 have GB:=Lib.hid hb
 have LB:=Lib.hid hd
 have HL:=Lib.hid hl
 clear ha hc hb hd hl
 have HB_0 : Hid (Below w.heap.size w w):=Lib.hid (Below.refl _ _)
 have b0 : (x.f0 != x.f0) = false:=bne_self_eq_false _
 have b1 : (x.f1 != x.f1) = false:=bne_self_eq_false _
 have b2 : (x.f2 != x.f2) = false:=bne_self_eq_false _
 go_enter Try.func98,Try.ntmps98
 go_upto_region 1 with (first | ((with_reducible refine gate_dst (N:=2) rfl ?_);refine box_event ?hg (N:=2) ?hd (cs := #[.int .i64 x.f0, .int .i64 x.f1, .int .i64 x.f2, .bool x.f3.f0, .int .u32 x.f3.f1, .bool x.f3.f2, .int .i64 x.f3.f3, .slice A x.f3.f4.length c]) (t:=56) ?hr ?_;(case hd => rfl);(case hg => rfl);(case hr => first | (go_simp;done) | (go_simp;rfl));intro g2 hg w1 hbox hb;have LO_HB_g2 : Hid (w.heap.size ≤ g2):=Lib.hid (by rw [hg];exact HB_0.out.size);have HEg2:=Lib.hid hg;have HB_1:=Lib.hid (below_then HB_0.out HB_0.out.size hb);have Xg2_1:=Lib.hid hbox;clear hg hbox hb) | ((with_reducible refine gate_dst (N:=3) rfl ?_);refine box_event ?hg (N:=3) ?hd (cs := #[.int .i64 x.f0, .int .i64 x.f1, .int .i64 x.f2, .bool x.f3.f0, .int .u32 x.f3.f1, .bool x.f3.f2, .int .i64 x.f3.f3, .slice B x.f3.f4.length d]) (t:=56) ?hr ?_;(case hd => rfl);(case hg => rfl);(case hr => first | (go_simp;done) | (go_simp;rfl));intro g3 hg w2 hbox hb;have LO_HB_g3 : Hid (w.heap.size ≤ g3):=Lib.hid (by rw [hg];exact HB_1.out.size);have NE_g2_g3 : Hid (g2 ≠ g3):=Lib.hid (fun e => by have h1:=blk_lt Xg2_1.out;omega);have HEg3:=Lib.hid hg;have HB_2:=Lib.hid (below_then HB_1.out HB_1.out.size hb);have Xg2_2:=Lib.hid (blk_below Xg2_1.out hb);have Xg3_2:=Lib.hid hbox;clear hg hbox hb))
 have x0 : w2.cell? ⟨g2,0,none⟩ = some (.int .i64 x.f0):=blk_cell Xg2_2.out 0
 have y0 : w2.cell? ⟨g3,0,none⟩ = some (.int .i64 x.f0):=blk_cell Xg3_2.out 0
 have x1 : w2.cell? ⟨g2,1,none⟩ = some (.int .i64 x.f1):=blk_cell Xg2_2.out 1
 have y1 : w2.cell? ⟨g3,1,none⟩ = some (.int .i64 x.f1):=blk_cell Xg3_2.out 1
 have x2 : w2.cell? ⟨g2,2,none⟩ = some (.int .i64 x.f2):=blk_cell Xg2_2.out 2
 have y2 : w2.cell? ⟨g3,2,none⟩ = some (.int .i64 x.f2):=blk_cell Xg3_2.out 2
 have x3 : w2.cell? ⟨g2,3,none⟩ = some (.bool x.f3.f0):=blk_cell Xg2_2.out 3
 have y3 : w2.cell? ⟨g3,3,none⟩ = some (.bool x.f3.f0):=blk_cell Xg3_2.out 3
 have x4 : w2.cell? ⟨g2,4,none⟩ = some (.int .u32 x.f3.f1):=blk_cell Xg2_2.out 4
 have y4 : w2.cell? ⟨g3,4,none⟩ = some (.int .u32 x.f3.f1):=blk_cell Xg3_2.out 4
 have x5 : w2.cell? ⟨g2,5,none⟩ = some (.bool x.f3.f2):=blk_cell Xg2_2.out 5
 have y5 : w2.cell? ⟨g3,5,none⟩ = some (.bool x.f3.f2):=blk_cell Xg3_2.out 5
 have x6 : w2.cell? ⟨g2,6,none⟩ = some (.int .i64 x.f3.f3):=blk_cell Xg2_2.out 6
 have y6 : w2.cell? ⟨g3,6,none⟩ = some (.int .i64 x.f3.f3):=blk_cell Xg3_2.out 6
 have x7 : w2.cell? ⟨g2,7,none⟩ = some (.slice A x.f3.f4.length c):=blk_cell Xg2_2.out 7
 have y7 : w2.cell? ⟨g3,7,none⟩ = some (.slice B x.f3.f4.length d):=blk_cell Xg3_2.out 7
 go_wp2_with (first | (go_at_call 55;refine (eqFrame_v x.f3 w2 A B c d (Kd.C_below GA.out HB_2.out) LA.out (Kd.C_below GB.out HB_2.out) LB.out HL.out).mono ?_;rintro e w3 ⟨rfl,hb⟩;have HB_3:=Lib.hid (below_then HB_2.out HB_2.out.size hb);have Xg2_3:=Lib.hid (blk_below Xg2_2.out hb);have Xg3_3:=Lib.hid (blk_below Xg3_2.out hb);clear hb))
 go_ret
 exact ⟨rfl,HB_3.out⟩
set_option maxRecDepth 100000 in
set_option maxHeartbeats 4000000 in
theorem eqEventS_v (l : List S56) (hl : l.length ≤ 10000000) (hdd : ∀ y ∈ l,y.f3.f4.length ≤ 10000000) (w : World) (A B : Option Addr) (c d : Nat) (ha : (k56).C w A l.length l) (hc : l.length ≤ c) (hb : (k56).C w B l.length l) (hd : l.length ≤ d) :
  Calls Try.prog 46 #[.slice A l.length c, .slice B l.length d] w fun e w' => e = .returned (.bool true) ∧ Below w.heap.size w w':=by
 have GA:=Lib.hid ha
 have GB:=Lib.hid hb
 have HL:=Lib.hid hl
 have HD:=Lib.hid hdd
 clear ha hb hl hdd
 have HB_0 : Hid (Below w.heap.size w w):=Lib.hid (Below.refl _ _)
 have bl : ((l.length : Int) != (l.length : Int)) = false:=bne_self_eq_false _
 go_enter Try.func46,Try.ntmps46
 go_wp2_with (fail)
 go_loopw [5] (fun v5 wr => ∃ i : Nat,i ≤ l.length ∧ v5 = .int .i64 i ∧ Aside0 (Below w.heap.size w wr)) (fun v5 _ => l.length - (intOf v5).toNat)
 case atStart => exact ⟨0,Nat.zero_le _,rfl,⟨HB_0.out⟩⟩
 case round =>
  obtain ⟨i,hi,rfl,HB⟩:=hrel
  by_cases hlt : i < l.length
  ·have a1 : (0 : Int) ≤ (i : Int):=Int.natCast_nonneg _
   have a2 : (i : Int) < (l.length : Int):=by exact_mod_cast hlt
   obtain ⟨ad,A8,c8,ea,k0,k1,k2,k3,k4,k5,k6,k7,l8,g8⟩:=at_T56 (Kd.C_below GA.out HB.out) (i : Int) a1 a2
   obtain ⟨be,B8,d8,eb,m0,m1,m2,m3,m4,m5,m6,m7,l9,g9⟩:=at_T56 (Kd.C_below GB.out HB.out) (i : Int) a1 a2
   subst ea
   subst eb
   clear a1 a2
   rw [Int.toNat_natCast] at k0 k1 k2 k3 k4 k5 k6 k7 m0 m1 m2 m3 m4 m5 m6 m7
   obtain ⟨x,hx⟩ : ∃ x,x = rd_T56 l (i : Int):=⟨_,rfl⟩
   rw [← hx] at k0 k1 k2 k3 k4 k5 k6 k7 m0 m1 m2 m3 m4 m5 m6 m7 l8 g8 l9 g9
   have HDX : Hid (x.f3.f4.length ≤ 10000000):=Lib.hid (by rw [hx];exact HD.out _ (List.mem_of_getElem? (getD_at2 l i z56 hlt)))
   have L8:=Lib.hid l8
   have G8:=Lib.hid g8
   have L9:=Lib.hid l9
   have G9:=Lib.hid g9
   clear l8 g8 l9 g9
   clear hx
   have b2 : decide ((i : Int) < (l.length : Int)) = true:=decide_eq_true (by omega)
   have p5 : (0 ≤ (i : Int)) = True:=eq_true (by omega)
   have q5 : ((i : Int) < (l.length : Int)) = True:=eq_true (by omega)
   have qn : (i < l.length) = True:=eq_true hlt
   have hn : wrap64 ((i : Int) + 1) = (i : Int) + 1:=by have:=HL.out;unfold wrap64;omega
   have HLT:=Lib.hid hlt
   have HN:=Lib.hid hn
   clear hlt hi
   go_wp2_with (fail)
   have K0':=Lib.hid k0
   have K1':=Lib.hid k1
   have K2':=Lib.hid k2
   have K3':=Lib.hid k3
   have K4':=Lib.hid k4
   have K5':=Lib.hid k5
   have K6':=Lib.hid k6
   have K7':=Lib.hid k7
   have M0':=Lib.hid m0
   have M1':=Lib.hid m1
   have M2':=Lib.hid m2
   have M3':=Lib.hid m3
   have M4':=Lib.hid m4
   have M5':=Lib.hid m5
   have M6':=Lib.hid m6
   have M7':=Lib.hid m7
   clear k0 k1 k2 k3 k4 k5 k6 k7 m0 m1 m2 m3 m4 m5 m6 m7
   obtain ⟨wd,hwd⟩ : ∃ wd,wd = wr.drew:=⟨_,rfl⟩
   have HWd : Hid (Below wr.heap.size wr wd):=by rw [hwd];exact Lib.hid (below_drew (Below.refl _ _))
   refine start_ (n:=10) (S:=fun w' : World => Below wr.heap.size wr w') (ds := []) #[false,false,false,false,false,false,false,false,false,false] (by kernel_rfl) rfl rfl (hwd ▸ HWd.out) (fun hHeld => ?_)
   rw [← hwd] at hHeld ⊢
   clear hwd
   refine pure_ (i:=0) (N:=some 17) (v := ?_) (a' := ?_) #[true,false,false,false,false,false,false,false,false,false] rfl rfl (by kernel_rfl) (fun _ _ _ h => h) (Or.inl ⟨by rfl, ?_⟩) ?_ ?_
   rotate_left
   ·intro w'
    go_simp
    with_reducible rfl
   rotate_left
   ·simp only [Act.put,List.setIfInBounds_toArray,List.set_cons_zero,List.set_cons_succ,i64_w,i32_w]
    rfl
   refine pure_ (i:=1) (N:=some 18) (v := ?_) (a' := ?_) #[true,true,false,false,false,false,false,false,false,false] rfl rfl (by kernel_rfl) (fun _ _ _ h => h) (Or.inl ⟨by rfl, ?_⟩) ?_ ?_
   rotate_left
   ·intro w'
    go_simp
    with_reducible rfl
   rotate_left
   ·simp only [Act.put,List.setIfInBounds_toArray,List.set_cons_zero,List.set_cons_succ,i64_w,i32_w]
    rfl
   refine pure_ (i:=2) (N:=some 19) (v := ?_) (a' := ?_) #[true,true,true,false,false,false,false,false,false,false] rfl rfl (by kernel_rfl) (fun _ _ _ h => h) (Or.inl ⟨by rfl, ?_⟩) ?_ ?_
   rotate_left
   ·intro w'
    go_simp
    with_reducible rfl
   rotate_left
   ·simp only [Act.put,List.setIfInBounds_toArray,List.set_cons_zero,List.set_cons_succ,i64_w,i32_w]
    rfl
   refine take_ (i:=3) (N:=some 20) (v := ?_) (a' := ?_) #[true,true,true,true,false,false,false,false,false,false] rfl rfl (by kernel_rfl) (fun _ _ _ h => h) (Or.inl ⟨by rfl, ?_⟩) hHeld ?_ ?_
   rotate_left
   ·intro w' s0
    have e0:=pw_cell_below s0 K0'.out
    have e1:=pw_cell_below s0 K1'.out
    have e2:=pw_cell_below s0 K2'.out
    have e3:=pw_cell_below s0 K3'.out
    have e4:=pw_cell_below s0 K4'.out
    have e5:=pw_cell_below s0 K5'.out
    have e6:=pw_cell_below s0 K6'.out
    have e7:=pw_cell_below s0 K7'.out
    go_simp
    with_reducible rfl
   rotate_left
   ·simp only [Act.put,List.setIfInBounds_toArray,List.set_cons_zero,List.set_cons_succ,i64_w,i32_w]
    rfl
   refine pure_ (i:=4) (N:=some 21) (v := ?_) (a' := ?_) #[true,true,true,true,true,false,false,false,false,false] rfl rfl (by kernel_rfl) (fun _ _ _ h => h) (Or.inl ⟨by rfl, ?_⟩) ?_ ?_
   rotate_left
   ·intro w'
    go_simp
    with_reducible rfl
   rotate_left
   ·simp only [Act.put,List.setIfInBounds_toArray,List.set_cons_zero,List.set_cons_succ,i64_w,i32_w]
    rfl
   refine pure_ (i:=5) (N:=some 22) (v := ?_) (a' := ?_) #[true,true,true,true,true,true,false,false,false,false] rfl rfl (by kernel_rfl) (fun _ _ _ h => h) (Or.inl ⟨by rfl, ?_⟩) ?_ ?_
   rotate_left
   ·intro w'
    go_simp
    with_reducible rfl
   rotate_left
   ·simp only [Act.put,List.setIfInBounds_toArray,List.set_cons_zero,List.set_cons_succ,i64_w,i32_w]
    rfl
   refine pure_ (i:=6) (N:=some 23) (v := ?_) (a' := ?_) #[true,true,true,true,true,true,true,false,false,false] rfl rfl (by kernel_rfl) (fun _ _ _ h => h) (Or.inl ⟨by rfl, ?_⟩) ?_ ?_
   rotate_left
   ·intro w'
    go_simp
    with_reducible rfl
   rotate_left
   ·simp only [Act.put,List.setIfInBounds_toArray,List.set_cons_zero,List.set_cons_succ,i64_w,i32_w]
    rfl
   refine take_ (i:=7) (N:=some 24) (v := ?_) (a' := ?_) #[true,true,true,true,true,true,true,true,false,false] rfl rfl (by kernel_rfl) (fun _ _ _ h => h) (Or.inl ⟨by rfl, ?_⟩) hHeld ?_ ?_
   rotate_left
   ·intro w' s0
    have e0:=pw_cell_below s0 M0'.out
    have e1:=pw_cell_below s0 M1'.out
    have e2:=pw_cell_below s0 M2'.out
    have e3:=pw_cell_below s0 M3'.out
    have e4:=pw_cell_below s0 M4'.out
    have e5:=pw_cell_below s0 M5'.out
    have e6:=pw_cell_below s0 M6'.out
    have e7:=pw_cell_below s0 M7'.out
    go_simp
    with_reducible rfl
   rotate_left
   ·simp only [Act.put,List.setIfInBounds_toArray,List.set_cons_zero,List.set_cons_succ,i64_w,i32_w]
    rfl
   refine one_ (i:=8) (N:=some 25) #[true,true,true,true,true,true,true,true,true,false] rfl rfl (by kernel_rfl) (by decide) (fun K hK => ?_)
   refine goes_ Try.func98 (by kernel_rfl) rfl #[.agg #[.int .i64 x.f0, .int .i64 x.f1, .int .i64 x.f2, .bool x.f3.f0, .int .u32 x.f3.f1, .bool x.f3.f2, .int .i64 x.f3.f3, .slice A8 x.f3.f4.length c8], .agg #[.int .i64 x.f0, .int .i64 x.f1, .int .i64 x.f2, .bool x.f3.f0, .int .u32 x.f3.f1, .bool x.f3.f2, .int .i64 x.f3.f3, .slice B8 x.f3.f4.length d8]] (by rfl) rfl rfl (by (try simp only [List.map_toArray,List.map_cons,List.map_nil]);first | done | rfl) ?_
   refine (eqEvent_v x wd A8 B8 c8 d8 (Kd.C_below G8.out HWd.out) L8.out (Kd.C_below G9.out HWd.out) L9.out HDX.out).mono ?_
   rintro e w6 ⟨rfl,hb⟩
   refine ⟨_,rfl, ?_⟩
   have HB6:=Lib.hid (below_then HWd.out HWd.out.size hb)
   clear hb
   refine hK.out _ _ HB6.out (fun hHeld => ?_)
   clear hK K
   refine norm_ (a' := ?_) ?_ ?_
   rotate_left
   ·show Act.put _ (some 25) _ = _
    simp only [Act.put,List.setIfInBounds_toArray,List.set_cons_zero,List.set_cons_succ,i64_w,i32_w]
    rfl
   refine pure_ (i:=9) (N:=some 26) (v := ?_) (a' := ?_) #[true,true,true,true,true,true,true,true,true,true] rfl rfl (by kernel_rfl) (fun _ _ _ h => h) (Or.inl ⟨by rfl, ?_⟩) ?_ ?_
   rotate_left
   ·intro w'
    go_simp
    with_reducible rfl
   rotate_left
   ·simp only [Act.put,List.setIfInBounds_toArray,List.set_cons_zero,List.set_cons_succ,i64_w,i32_w]
    rfl
   refine done_ (by kernel_rfl) ?_
   go_wp2_with (fail)
   go_roundw
   case rel => exact ⟨i + 1,HLT.out,by rw [HN.out];rfl,⟨below_then HB.out HB.out.size HB6.out⟩⟩
   case measure => rw [HN.out];have:=HLT.out;simp [intOf];omega
  ·have b2 : decide ((i : Int) < (l.length : Int)) = false:=decide_eq_false (by omega)
   go_wp2_with (fail)
   go_ret
   exact ⟨rfl,HB.out⟩
structure HSm (h : HV) : Prop where
 l1 : h.fs.length ≤ 10000000
 l2 : h.bs.length ≤ 10000000
 l3 : h.fr.length ≤ 10000000
 l4 : h.ev.length ≤ 10000000
 d2 : ∀ y ∈ h.bs,y.f3.f4.length ≤ 10000000
 d3 : ∀ y ∈ h.fr,y.f4.length ≤ 10000000
 d4 : ∀ y ∈ h.ev,y.f3.f4.length ≤ 10000000
set_option maxRecDepth 100000 in
set_option maxHeartbeats 2000000 in
theorem eqConfig_v (a b c d : Int) (w : World) : Calls Try.prog 65 #[.agg #[.int .i64 a, .int .i64 b, .int .i64 c, .int .i64 d], .agg #[.int .i64 a, .int .i64 b, .int .i64 c, .int .i64 d]] w fun e w' => e = .returned (.bool true) ∧ Below w.heap.size w w':=by
 have b0 : (a != a) = false:=bne_self_eq_false _
 have b1 : (b != b) = false:=bne_self_eq_false _
 have b2 : (c != c) = false:=bne_self_eq_false _
 have b3 : (d != d) = false:=bne_self_eq_false _
 go_enter Try.func65,Try.ntmps65
 go_upto_region 1 with (first | ((with_reducible refine gate_dst (N:=2) rfl ?_);refine box_event ?hg (N:=2) ?hd (cs := #[.int .i64 a, .int .i64 b, .int .i64 c, .int .i64 d]) (t:=26) ?hr ?_;(case hd => rfl);(case hg => rfl);(case hr => first | (go_simp;done) | (go_simp;rfl));intro g2 hg w1 hbox hb;have X1:=Lib.hid hbox;have HB1:=Lib.hid hb;clear hg hbox hb) | ((with_reducible refine gate_dst (N:=3) rfl ?_);refine box_event ?hg (N:=3) ?hd (cs := #[.int .i64 a, .int .i64 b, .int .i64 c, .int .i64 d]) (t:=26) ?hr ?_;(case hd => rfl);(case hg => rfl);(case hr => first | (go_simp;done) | (go_simp;rfl));intro g3 hg w2 hbox hb;have Y2:=Lib.hid hbox;have X2:=Lib.hid (blk_below X1.out hb);have HB2:=Lib.hid (below_then HB1.out HB1.out.size hb);clear hg hbox hb))
 have x0 : w2.cell? ⟨g2,0,none⟩ = some (.int .i64 a):=blk_cell X2.out 0
 have x1 : w2.cell? ⟨g2,1,none⟩ = some (.int .i64 b):=blk_cell X2.out 1
 have x2 : w2.cell? ⟨g2,2,none⟩ = some (.int .i64 c):=blk_cell X2.out 2
 have x3 : w2.cell? ⟨g2,3,none⟩ = some (.int .i64 d):=blk_cell X2.out 3
 have y0 : w2.cell? ⟨g3,0,none⟩ = some (.int .i64 a):=blk_cell Y2.out 0
 have y1 : w2.cell? ⟨g3,1,none⟩ = some (.int .i64 b):=blk_cell Y2.out 1
 have y2 : w2.cell? ⟨g3,2,none⟩ = some (.int .i64 c):=blk_cell Y2.out 2
 have y3 : w2.cell? ⟨g3,3,none⟩ = some (.int .i64 d):=blk_cell Y2.out 3
 go_wp2_with (fail)
 go_ret
 exact ⟨rfl,HB2.out⟩
set_option maxRecDepth 100000 in
set_option maxHeartbeats 4000000 in
theorem eqHost_v (h : HV) (hs : HSm h) (w : World) (C D : List Value) (hC : HRead w h C) (hD : HRead w h D) :
  Calls Try.prog 19 #[.agg ⟨C⟩, .agg ⟨D⟩] w fun e w' => e = .returned (.bool true) ∧ Below w.heap.size w w':=by
 obtain ⟨A1,c1,A2,c2,A3,c3,A4,c4,rfl,r1,l1,r2,l2,r3,l3,r4,l4⟩:=hC
 obtain ⟨B1,e1,B2,e2,B3,e3,B4,e4,rfl,s1,m1,s2,m2,s3,m3,s4,m4⟩:=hD
 have HS:=Lib.hid hs
 have R1:=Lib.hid r1;have R2:=Lib.hid r2;have R3:=Lib.hid r3;have R4:=Lib.hid r4
 have S1:=Lib.hid s1;have S2:=Lib.hid s2;have S3:=Lib.hid s3;have S4:=Lib.hid s4
 have L1:=Lib.hid l1;have L2:=Lib.hid l2;have L3:=Lib.hid l3;have L4:=Lib.hid l4
 have M1:=Lib.hid m1;have M2:=Lib.hid m2;have M3:=Lib.hid m3;have M4:=Lib.hid m4
 clear hs r1 r2 r3 r4 s1 s2 s3 s4 l1 l2 l3 l4 m1 m2 m3 m4
 have b0 : (h.lost != h.lost) = false:=bne_self_eq_false _
 have b1 : (h.stamp != h.stamp) = false:=bne_self_eq_false _
 go_enter Try.func19,Try.ntmps19
 go_upto_region 1 with (first | ((with_reducible refine gate_dst (N:=2) rfl ?_);refine box_event ?hg (N:=2) ?hd (cs:=⟨hostC h (.slice A1 h.fs.length c1) (.slice A2 h.bs.length c2) (.slice A3 h.fr.length c3) (.slice A4 h.ev.length c4)⟩) (t:=32) ?hr ?_;(case hd => rfl);(case hg => rfl);(case hr => first | (go_simp;done) | (go_simp;rfl));intro g2 hg w1 hbox hb;have X1:=Lib.hid hbox;have HB1:=Lib.hid hb;clear hg hbox hb) | ((with_reducible refine gate_dst (N:=3) rfl ?_);refine box_event ?hg (N:=3) ?hd (cs:=⟨hostC h (.slice B1 h.fs.length e1) (.slice B2 h.bs.length e2) (.slice B3 h.fr.length e3) (.slice B4 h.ev.length e4)⟩) (t:=32) ?hr ?_;(case hd => rfl);(case hg => rfl);(case hr => first | (go_simp;done) | (go_simp;rfl));intro g3 hg w2 hbox hb;have Y2:=Lib.hid hbox;have X2:=Lib.hid (blk_below X1.out hb);have HB2:=Lib.hid (below_then HB1.out HB1.out.size hb);clear hg hbox hb))
 have x0 : w2.cell? ⟨g2,0,none⟩ = some (.int .i64 h.cb):=blk_cell X2.out 0
 have x1 : w2.cell? ⟨g2,1,none⟩ = some (.int .i64 h.cf):=blk_cell X2.out 1
 have x2 : w2.cell? ⟨g2,2,none⟩ = some (.int .i64 h.cp):=blk_cell X2.out 2
 have x3 : w2.cell? ⟨g2,3,none⟩ = some (.int .i64 h.ce):=blk_cell X2.out 3
 have y0 : w2.cell? ⟨g3,0,none⟩ = some (.int .i64 h.cb):=blk_cell Y2.out 0
 have y1 : w2.cell? ⟨g3,1,none⟩ = some (.int .i64 h.cf):=blk_cell Y2.out 1
 have y2 : w2.cell? ⟨g3,2,none⟩ = some (.int .i64 h.cp):=blk_cell Y2.out 2
 have y3 : w2.cell? ⟨g3,3,none⟩ = some (.int .i64 h.ce):=blk_cell Y2.out 3
 go_upto_region 3 with (first | (go_at_call 65;refine (eqConfig_v h.cb h.cf h.cp h.ce w2).mono ?_;rintro e w3 ⟨rfl,hb⟩;have X3:=Lib.hid (blk_below X2.out hb);have Y3:=Lib.hid (blk_below Y2.out hb);have HB3:=Lib.hid (below_then HB2.out HB2.out.size hb);clear hb))
 clear x0 x1 x2 x3 y0 y1 y2 y3
 have x4 : w3.cell? ⟨g2,4,none⟩ = some (.slice A1 h.fs.length c1):=blk_cell X3.out 4
 have y4 : w3.cell? ⟨g3,4,none⟩ = some (.slice B1 h.fs.length e1):=blk_cell Y3.out 4
 go_upto_region 5 with (first | (go_at_call 20;refine (eqFilterS_v h.fs HS.out.l1 w3 A1 B1 c1 e1 (Kd.C_below R1.out HB3.out) L1.out (Kd.C_below S1.out HB3.out) M1.out).mono ?_;rintro e w4 ⟨rfl,hb⟩;have X4:=Lib.hid (blk_below X3.out hb);have Y4:=Lib.hid (blk_below Y3.out hb);have HB4:=Lib.hid (below_then HB3.out HB3.out.size hb);clear hb))
 clear x4 y4
 have x5 : w4.cell? ⟨g2,5,none⟩ = some (.slice A2 h.bs.length c2):=blk_cell X4.out 5
 have y5 : w4.cell? ⟨g3,5,none⟩ = some (.slice B2 h.bs.length e2):=blk_cell Y4.out 5
 go_upto_region 7 with (first | (go_at_call 66;refine (eqBoxS_v h.bs HS.out.l2 HS.out.d2 w4 A2 B2 c2 e2 (Kd.C_below R2.out HB4.out) L2.out (Kd.C_below S2.out HB4.out) M2.out).mono ?_;rintro e w5 ⟨rfl,hb⟩;have X5:=Lib.hid (blk_below X4.out hb);have Y5:=Lib.hid (blk_below Y4.out hb);have HB5:=Lib.hid (below_then HB4.out HB4.out.size hb);clear hb))
 clear x5 y5
 have x6 : w5.cell? ⟨g2,6,none⟩ = some (.slice A3 h.fr.length c3):=blk_cell X5.out 6
 have y6 : w5.cell? ⟨g3,6,none⟩ = some (.slice B3 h.fr.length e3):=blk_cell Y5.out 6
 go_upto_region 9 with (first | (go_at_call 67;refine (eqFrameS_v h.fr HS.out.l3 HS.out.d3 w5 A3 B3 c3 e3 (Kd.C_below R3.out HB5.out) L3.out (Kd.C_below S3.out HB5.out) M3.out).mono ?_;rintro e w6 ⟨rfl,hb⟩;have X6:=Lib.hid (blk_below X5.out hb);have Y6:=Lib.hid (blk_below Y5.out hb);have HB6:=Lib.hid (below_then HB5.out HB5.out.size hb);clear hb))
 clear x6 y6
 have x7 : w6.cell? ⟨g2,7,none⟩ = some (.slice A4 h.ev.length c4):=blk_cell X6.out 7
 have y7 : w6.cell? ⟨g3,7,none⟩ = some (.slice B4 h.ev.length e4):=blk_cell Y6.out 7
 go_upto_region 11 with (first | (go_at_call 46;refine (eqEventS_v h.ev HS.out.l4 HS.out.d4 w6 A4 B4 c4 e4 (Kd.C_below R4.out HB6.out) L4.out (Kd.C_below S4.out HB6.out) M4.out).mono ?_;rintro e w7 ⟨rfl,hb⟩;have X7:=Lib.hid (blk_below X6.out hb);have Y7:=Lib.hid (blk_below Y6.out hb);have HB7:=Lib.hid (below_then HB6.out HB6.out.size hb);clear hb))
 clear x7 y7
 have x8 : w7.cell? ⟨g2,8,none⟩ = some (.int .i64 h.lost):=blk_cell X7.out 8
 have y8 : w7.cell? ⟨g3,8,none⟩ = some (.int .i64 h.lost):=blk_cell Y7.out 8
 have x9 : w7.cell? ⟨g2,9,none⟩ = some (.int .i64 h.stamp):=blk_cell X7.out 9
 have y9 : w7.cell? ⟨g3,9,none⟩ = some (.int .i64 h.stamp):=blk_cell Y7.out 9
 go_wp2_with (fail)
 go_ret
 exact ⟨rfl,HB7.out⟩
end Go.Proofs.Ytcaefabbcjlkdaa.P
