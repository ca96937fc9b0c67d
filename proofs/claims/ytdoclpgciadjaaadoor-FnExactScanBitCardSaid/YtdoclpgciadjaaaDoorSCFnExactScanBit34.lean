/- Texts of the proof of CFnExactScanBit, joined. -/
import Derived.Test.YtdoclpgciadjaaaDoorSCFnExactScanBit25
import Derived.Test.YtdoclpgciadjaaaDoorSCFnExactScanBit21
import Derived.Test.YtdoclpgciadjaaaDoorSCFnExactScanBit23
import Derived.Test.YtdoclpgciadjaaaDoorSCFnExactScanBit24
import Derived.Test.YtdoclpgciadjaaaDoorSCFnExactScanBit32
import Derived.Test.YtdoclpgciadjaaaDoorSCFnExactScanBit33
import Derived.Test.YtdoclpgciadjaaaDoorSCFnExactScanBit26
import Derived.Deep.RegionHeld
import Derived.Deep.Slices
import Derived.Deep.Fields
import Derived.ChangeSame
import Derived.WideShapes
namespace Go.Proofs.YtdoclpgciadjaaaDoor.P
open Go.RowKit Go.Proofs.YtdoclpgciadjaaaDoorW.PrintWords Go.Proofs.YtdoclpgciadjaaaDoorW.PrintLast Go.Proofs.YtdoclpgciadjaaaDoorW.PrintMore
set_option linter.unusedVariables false
set_option linter.unusedSimpArgs false
set_option maxHeartbeats 1000000 in
set_option maxRecDepth 100000 in
theorem scan_first_crc_1_0 (w : World) (s : SS) (A : Option Addr) (c : Nat) (hr : Kd.C (Kd.int .u8) w A s.data.length s.data) (hc : s.data.length ≤ c) (hG : LaidRows w) (hs : Sound s) (i0 : 0 ≤ s.id) (hby : ∀ x ∈ s.data,0 ≤ x ∧ x < 256) (h5 : s.run ≠ 5) (hv : verdictV s 1 = 0) (hlim : s.field = 14 → s.left ≠ 1) (hq : s.field ≤ 10) (hr0 : s.run = 0) (hcr : s.field ≤ 9) :
  Calls Tryd.prog 8 #[.agg #[.int .i64 s.field, .int .i64 s.left, .int .i64 s.run, .int .i64 s.level, .int .i64 s.crc, .int .i64 s.acc, .bool s.ext, .int .u32 s.id, .bool s.rtr, .int .i64 s.dlc,(.slice A s.data.length c)], .int .i64 1] w fun e w' => ∃ v : Value,e = .returned (.tuple #[.agg #[.int .i64 (stepS (takeS (crcT (runS s 1) 1) 1)).field, .int .i64 (stepS (takeS (crcT (runS s 1) 1) 1)).left, .int .i64 (stepS (takeS (crcT (runS s 1) 1) 1)).run, .int .i64 (stepS (takeS (crcT (runS s 1) 1) 1)).level, .int .i64 (stepS (takeS (crcT (runS s 1) 1) 1)).crc, .int .i64 (stepS (takeS (crcT (runS s 1) 1) 1)).acc, .bool (stepS (takeS (crcT (runS s 1) 1) 1)).ext, .int .u32 (stepS (takeS (crcT (runS s 1) 1) 1)).id, .bool (stepS (takeS (crcT (runS s 1) 1) 1)).rtr, .int .i64 (stepS (takeS (crcT (runS s 1) 1) 1)).dlc,v], .int .i64 0]) ∧ Kd.R (Kd.int .u8) 5 w' w.heap.size (fun _ => True) v (stepS (takeS (crcT (runS s 1) 1) 1)).data ∧ Below w.heap.size w w':=by
 have HR:=Lib.hid hr
 have HC:=Lib.hid hc
 have HG:=Lib.hid hG
 clear hr hc hG
 have HS:=Lib.hid hs
 have HCP : Hid (impl_copyFrame.f s.ext s.id s.rtr s.dlc s.data = some (s.ext,s.id,s.rtr,s.dlc,s.data)):=Lib.hid (copy_eq (by have:=hs.dl;omega))
 have HSB : Hid (impl_Scan_sound.f 10 s.field s.left s.run s.level s.crc s.acc s.ext s.id s.rtr s.dlc s.data = some true):=Lib.hid (by rw [soundI,soundB_true hs])
 have HVB : Hid (impl_Scan_verdict.f 10 s.field s.left s.run s.level s.crc s.acc s.ext s.id s.rtr s.dlc s.data 1 = some 0):=Lib.hid (by rw [verdictI,hv])
 have b5 : (s.run == 5) = false:=beq_eq_false_iff_ne.mpr h5
 have r0:=hs.r0
 have r1:=hs.r1
 have f0:=hs.f0
 have HE1 : Hid (crcT (runS s 1) 1 = ({ s with run:=1,level:=1,crc:=crcI s.crc 1 } : SS)):=Lib.hid (by rw [show runS s 1 = ({ s with run:=1,level:=1 } : SS) by unfold runS;rw [if_neg (by omega),if_neg (by omega)]];unfold crcT;rw [if_pos (show s.field ≤ 9 from hcr)])
 have HOK : Hid (SOk ({ s with run:=1,level:=1,crc:=crcI s.crc 1 } : SS)):=Lib.hid (by have h:=hs.ok i0 hby;exact ⟨h.f0,h.f1,h.l0,h.l1,h.d0,h.d1,h.i0,h.i1,h.a0,h.a1,h.ne,h.by_,h.dl⟩)
 have HTK : Hid ((takeS ({ s with run:=1,level:=1,crc:=crcI s.crc 1 } : SS) 1).field = s.field ∧ (takeS ({ s with run:=1,level:=1,crc:=crcI s.crc 1 } : SS) 1).left = s.left):=Lib.hid (takeS_keep _ _)
 have HTD : Hid (0 ≤ (takeS ({ s with run:=1,level:=1,crc:=crcI s.crc 1 } : SS) 1).dlc ∧ (takeS ({ s with run:=1,level:=1,crc:=crcI s.crc 1 } : SS) 1).dlc ≤ 15):=Lib.hid (takeS_dlc (s := { s with run:=1,level:=1,crc:=crcI s.crc 1 }) hs.d0 hs.d1 _)
 have HF : Hid (1 ≤ s.field ∧ s.field ≤ 14 ∧ 1 ≤ s.left ∧ s.left ≤ 64 ∧ (s.field = 14 → s.left ≠ 1)):=Lib.hid ⟨hs.f0,hs.f1,hs.l0,by have:=(sizeF_le hs.f0 hs.f1 hs.d0).2;have:=hs.l1;omega,hlim⟩
 have hrz : s.run ≤ 0:=by omega
 clear r0 r1 hr0
 clear hs i0 hby h5 hv hlim
 rw [HE1.out]
 generalize hTT : takeS ({ s with run:=1,level:=1,crc:=crcI s.crc 1 } : SS) 1 = T at HTK HTD ⊢
 have HTT:=Lib.hid hTT
 clear hTT
 go_enter Tryd.func8,Tryd.ntmps8
 go_wp2_with (fail)
 (refine (impl_Scan_sound.calls 10 s.field s.left s.run s.level s.crc s.acc s.ext s.id s.rtr s.dlc A c s.data true _ (Kd.C_alloc (Kd.C_alloc HR.out _) _) HC.out HSB.out (HG.out.alloc _ |>.alloc _)).mono ?_;rintro e w1 ⟨rfl,hb1⟩;have HW1:=Lib.hid ((SbIn.start w s (.slice A s.data.length c)).step hb1);clear hb1)
 have hx6:=cS6 HW1.out.box
 have hx7:=cS7 HW1.out.box
 have hx8:=cS8 HW1.out.box
 have hx9:=cS9 HW1.out.box
 have hx10:=cS10 HW1.out.box
 go_wp2_with (fail)
 clear hx6 hx7 hx8 hx9 hx10
 (refine (impl_copyFrame.calls s.ext s.id s.rtr s.dlc A c s.data s.ext s.id s.rtr s.dlc s.data _ (Kd.C_below HR.out HW1.out.below) HC.out HCP.out).mono ?_;rintro e w2 ⟨v2,rfl,hr2,hb2⟩;obtain ⟨A2,c2,rfl⟩:=Kd.R_slice hr2;have HR2:=Lib.hid hr2;have HB2:=Lib.hid hb2;have HW2:=Lib.hid (HW1.out.step hb2);clear hr2 hb2)
 go_wp2_with ((with_reducible refine gate_store (t:=29) (p:=22) rfl ?_);refine store_box rfl rfl rfl (g:=w.heap.size) (j:=6) (cs := #[.int .i64 s.field, .int .i64 s.left, .int .i64 s.run, .int .i64 s.level, .int .i64 s.crc, .int .i64 s.acc, .bool s.ext, .int .u32 s.id, .bool s.rtr, .int .i64 s.dlc,(.slice A s.data.length c)]) (cs' := #[.int .i64 s.field, .int .i64 s.left, .int .i64 s.run, .int .i64 s.level, .int .i64 s.crc, .int .i64 s.acc, .bool s.ext, .int .u32 s.id, .bool s.rtr, .int .i64 s.dlc,(.slice A2 s.data.length c2)]) (T:=31) (u := .agg #[.bool s.ext, .int .u32 s.id, .bool s.rtr, .int .i64 s.dlc,(.slice A2 s.data.length c2)]) (seg := [.bool s.ext, .int .u32 s.id, .bool s.rtr, .int .i64 s.dlc,(.slice A2 s.data.length c2)]) rfl rfl HW2.out.box rfl (by kernel_rfl) rfl rfl rfl ?_;intro w3 hx hT;have HW3:=Lib.hid (SbO.ofCopy HW1.out HB2.out HR2.out hx hT);clear hx hT;obtain ⟨hc0,hc1,hc2,hc3,hc4,hc5,hc6,hc7,hc8,hc9,hc10⟩:=cSall HW3.out.box;obtain ⟨hf0,hf1,hf2,hf3,hf4,hf5,hf6,hf7,hf8,hf9,hf10⟩:=fSall HW3.out.box)
 (refine (impl_Scan_verdict.calls 10 s.field s.left s.run s.level s.crc s.acc s.ext s.id s.rtr s.dlc A2 c2 s.data 1 0 _ (Kd.R_reads' HW3.out.row).2.2 (Kd.R_reads' HW3.out.row).2.1 HVB.out).mono ?_;rintro e w4 ⟨rfl,hb4⟩;have HW4:=Lib.hid (HW3.out.step hb4);clear hb4;clear hc0 hc1 hc2 hc3 hc4 hc5 hc6 hc7 hc8 hc9 hc10 hf0 hf1 hf2 hf3 hf4 hf5 hf6 hf7 hf8 hf9 hf10;obtain ⟨hc0,hc1,hc2,hc3,hc4,hc5,hc6,hc7,hc8,hc9,hc10⟩:=cSall HW4.out.box;obtain ⟨hf0,hf1,hf2,hf3,hf4,hf5,hf6,hf7,hf8,hf9,hf10⟩:=fSall HW4.out.box)
 go_wp2_with (first | (go_at_call 30;refine (impl_crcBit.same _ _ _).mono ?_;rintro e w' ⟨rfl,rfl⟩))
 have HW6 : Hid (SbO w _ ({ s with run:=1,level:=1,crc:=crcI s.crc 1 } : SS) _):=Lib.hid (((HW4.out.put (setS2 HW4.out.box (1)) rfl).put (setS3 (setS2 HW4.out.box (1)) (1)) rfl).put (setS4 (setS3 (setS2 HW4.out.box (1)) (1)) (crcI s.crc 1)) rfl)
 (refine (impl_Scan_plain.calls w.heap.size _ ({ s with run:=1,level:=1,crc:=crcI s.crc 1 } : SS) 1 (by omega) (fun k => w.heap.size + 1 < k) w _ HW6.out.toIn (Nat.le_refl _) (by (try simp only []);omega) HOK.out).mono ?_;intro e w5 hE;obtain ⟨v5,h7⟩:=HW6.out.ofEnd hE;have hret:=hE.ret;subst hret;clear hE)
 rw [HTT.out] at h7
 obtain ⟨A5,c5,rfl,hC5,hc5⟩:=h7.open_
 have HW7:=Lib.hid h7
 clear h7 hC5 hc5 HTT HW6 HE1 HOK
 clear hc0 hc1 hc2 hc3 hc4 hc5 hc6 hc7 hc8 hc9 hc10 hf0 hf1 hf2 hf3 hf4 hf5 hf6 hf7 hf8 hf9 hf10
 obtain ⟨hc0,hc1,hc2,hc3,hc4,hc5,hc6,hc7,hc8,hc9,hc10⟩:=cSall HW7.out.box
 obtain ⟨hf0,hf1,hf2,hf3,hf4,hf5,hf6,hf7,hf8,hf9,hf10⟩:=fSall HW7.out.box
 have tl0 : 1 ≤ T.left:=by have:=HTK.out;have:=HF.out;omega
 have tl1 : T.left ≤ 64:=by have:=HTK.out;have:=HF.out;omega
 have HW8:=Lib.hid (HW7.out.put (setS1 HW7.out.box (T.left - 1)) rfl)
 by_cases hL : T.left - 1 = 0
 ·have bL : (T.left - 1 == 0) = true:=beq_iff_eq.mpr hL
  have HL0:=Lib.hid hL
  have HSTEP : Hid (stepS T = enterS T (afterF T)):=Lib.hid (by unfold stepS;rw [if_pos hL])
  have HAR : Hid (1 ≤ afterF T ∧ afterF T ≤ 14):=Lib.hid (by have h1:=HTK.out;have h2:=HF.out;exact afterF_range (by omega) (by omega))
  have HAI : Hid (impl_fieldAfter.f T.field T.ext T.id T.rtr T.dlc T.data = some (afterF T)):=Lib.hid (by have h1:=HTK.out;have h2:=HF.out;exact afterI (by omega) (by omega))
  have HSI : Hid (impl_fieldSize.f (afterF T) T.ext T.id T.rtr T.dlc T.data = some (sizeF { T with field:=afterF T })):=Lib.hid (sizeI (s := { T with field:=afterF T }) HAR.out.1 HAR.out.2 HTD.out.1 HTD.out.2)
  generalize afterF T = AF at HSTEP HAR HAI HSI
  clear hL
  go_wp2_with (fail)
  (refine (impl_fieldAfter.calls T.field T.ext T.id T.rtr T.dlc A5 c5 T.data AF _ (Kd.R_reads' HW8.out.row).2.2 (Kd.R_reads' HW8.out.row).2.1 HAI.out (HG.out.next HW8.out.below)).mono ?_;rintro e w9 ⟨rfl,hb9⟩;have HW9:=Lib.hid (HW8.out.step hb9);clear hb9;clear hc0 hc1 hc2 hc3 hc4 hc5 hc6 hc7 hc8 hc9 hc10 hf0 hf1 hf2 hf3 hf4 hf5 hf6 hf7 hf8 hf9 hf10;obtain ⟨hc0,hc1,hc2,hc3,hc4,hc5,hc6,hc7,hc8,hc9,hc10⟩:=cSall HW9.out.box;obtain ⟨hf0,hf1,hf2,hf3,hf4,hf5,hf6,hf7,hf8,hf9,hf10⟩:=fSall HW9.out.box)
  have HW10:=Lib.hid (HW9.out.put (setS0 HW9.out.box AF) rfl)
  go_wp2_with (fail)
  (refine (impl_fieldSize.calls AF T.ext T.id T.rtr T.dlc A5 c5 T.data _ _ (Kd.R_reads' HW10.out.row).2.2 (Kd.R_reads' HW10.out.row).2.1 HSI.out (HG.out.next HW10.out.below)).mono ?_;rintro e w11 ⟨rfl,hb11⟩;have HW11:=Lib.hid (HW10.out.step hb11);clear hb11;clear hc0 hc1 hc2 hc3 hc4 hc5 hc6 hc7 hc8 hc9 hc10 hf0 hf1 hf2 hf3 hf4 hf5 hf6 hf7 hf8 hf9 hf10;obtain ⟨hc0,hc1,hc2,hc3,hc4,hc5,hc6,hc7,hc8,hc9,hc10⟩:=cSall HW11.out.box;obtain ⟨hf0,hf1,hf2,hf3,hf4,hf5,hf6,hf7,hf8,hf9,hf10⟩:=fSall HW11.out.box)
  generalize hSZ : sizeF { T with field:=AF } = SZ at HSI ⊢
  have HSZ:=Lib.hid hSZ
  clear hSZ
  have HW12:=Lib.hid (HW11.out.put (setS1 HW11.out.box SZ) rfl)
  by_cases h9 : AF = 9
  ·have b9 : (AF == 9) = true:=beq_iff_eq.mpr h9
   have HH9:=Lib.hid h9
   clear h9
   have hns:=HW12.out.nil
   have hsz12 : (w11.setCell ⟨w.heap.size,1,none⟩ (.int .i64 SZ)).heap.size = w11.heap.size:=by simp [World.setCell]
   rw [hsz12] at hns
   have HW13:=Lib.hid hns
   clear hns hsz12
   obtain ⟨hg0,hg1,hg2,hg3,hg4,hg5,hg6,hg7,hg8,hg9,hg10⟩:=cSall (blk_alloc HW12.out.box (.cells #[] 5))
   have hgf:=fS (blk_alloc HW12.out.box (.cells #[] 5)) 10
   go_wp2_with ((with_reducible refine gate_store (t:=31) (p:=4) rfl ?_);refine store_box rfl rfl rfl (g:=w.heap.size + 1) (j:=0) (cs := #[.int .i64 0, .int .i64 0, .int .i64 0, .int .i64 0, .int .i64 0, .int .i64 0, .bool false, .int .u32 0, .bool false, .int .i64 0, .slice none 0 0]) (cs' := #[.int .i64 AF, .int .i64 SZ, .int .i64 T.run, .int .i64 T.level, .int .i64 T.crc, .int .i64 T.acc, .bool T.ext, .int .u32 T.id, .bool T.rtr, .int .i64 T.dlc,(.slice (some ⟨w11.heap.size,0,none⟩) 0 0)]) (T:=31) (u := .agg #[.int .i64 AF, .int .i64 SZ, .int .i64 T.run, .int .i64 T.level, .int .i64 T.crc, .int .i64 T.acc, .bool T.ext, .int .u32 T.id, .bool T.rtr, .int .i64 T.dlc,(.slice (some ⟨w11.heap.size,0,none⟩) 0 0)]) (seg := [.int .i64 AF, .int .i64 SZ, .int .i64 T.run, .int .i64 T.level, .int .i64 T.crc, .int .i64 T.acc, .bool T.ext, .int .u32 T.id, .bool T.rtr, .int .i64 T.dlc,(.slice (some ⟨w11.heap.size,0,none⟩) 0 0)]) rfl rfl HW13.out.res rfl (by kernel_rfl) rfl rfl rfl ?_;intro wz hx hT;have HX:=Lib.hid hx;have HTZ:=Lib.hid hT;have HBz:=Lib.hid (hT.below HW13.out.below HW13.out.below.size (fun k hk => by omega));clear hx hT)
   refine bodyPost_ret (results_ct rfl _ _ (w.heap.size + 1) 31 #[.int .i64 AF, .int .i64 SZ, .int .i64 T.run, .int .i64 T.level, .int .i64 T.crc, .int .i64 T.acc, .bool T.ext, .int .u32 T.id, .bool T.rtr, .int .i64 T.dlc,(.slice (some ⟨w11.heap.size,0,none⟩) 0 0)] (0,0) _ rfl HX.out Tryd.underlying31 rfl (by kernel_rfl)) rfl ?_
   rw [HSTEP.out,show enterS T AF = { T with field:=AF,left:=SZ,data := [] } by unfold enterS;rw [if_pos HH9.out,HSZ.out]]
   exact ⟨_,rfl,Kd.R_mono (HTZ.out.R HW13.out.row (fun k hk e => by omega)) (fun _ _ => trivial),HBz.out⟩
  ·have b9 : (AF == 9) = false:=beq_eq_false_iff_ne.mpr h9
   have HH9:=Lib.hid h9
   clear h9
   go_wp2_with ((with_reducible refine gate_store (t:=31) (p:=4) rfl ?_);refine store_box rfl rfl rfl (g:=w.heap.size + 1) (j:=0) (cs := #[.int .i64 0, .int .i64 0, .int .i64 0, .int .i64 0, .int .i64 0, .int .i64 0, .bool false, .int .u32 0, .bool false, .int .i64 0, .slice none 0 0]) (cs' := #[.int .i64 AF, .int .i64 SZ, .int .i64 T.run, .int .i64 T.level, .int .i64 T.crc, .int .i64 T.acc, .bool T.ext, .int .u32 T.id, .bool T.rtr, .int .i64 T.dlc,(.slice A5 T.data.length c5)]) (T:=31) (u := .agg #[.int .i64 AF, .int .i64 SZ, .int .i64 T.run, .int .i64 T.level, .int .i64 T.crc, .int .i64 T.acc, .bool T.ext, .int .u32 T.id, .bool T.rtr, .int .i64 T.dlc,(.slice A5 T.data.length c5)]) (seg := [.int .i64 AF, .int .i64 SZ, .int .i64 T.run, .int .i64 T.level, .int .i64 T.crc, .int .i64 T.acc, .bool T.ext, .int .u32 T.id, .bool T.rtr, .int .i64 T.dlc,(.slice A5 T.data.length c5)]) rfl rfl HW12.out.res rfl (by kernel_rfl) rfl rfl rfl ?_;intro wz hx hT;have HX:=Lib.hid hx;have HTZ:=Lib.hid hT;have HBz:=Lib.hid (hT.below HW12.out.below HW12.out.below.size (fun k hk => by omega));clear hx hT)
   refine bodyPost_ret (results_ct rfl _ _ (w.heap.size + 1) 31 #[.int .i64 AF, .int .i64 SZ, .int .i64 T.run, .int .i64 T.level, .int .i64 T.crc, .int .i64 T.acc, .bool T.ext, .int .u32 T.id, .bool T.rtr, .int .i64 T.dlc,(.slice A5 T.data.length c5)] (0,0) _ rfl HX.out Tryd.underlying31 rfl (by kernel_rfl)) rfl ?_
   rw [HSTEP.out,show enterS T AF = { T with field:=AF,left:=SZ } by unfold enterS;rw [if_neg HH9.out,HSZ.out]]
   exact ⟨_,rfl,Kd.R_mono (HTZ.out.R HW12.out.row (fun k hk e => by omega)) (fun _ _ => trivial),HBz.out⟩
 ·have bL : (T.left - 1 == 0) = false:=beq_eq_false_iff_ne.mpr hL
  have HL0:=Lib.hid hL
  have HSTEP : Hid (stepS T = { T with left:=T.left - 1 }):=Lib.hid (by unfold stepS;rw [if_neg hL])
  clear hL
  go_wp2_with ((with_reducible refine gate_store (t:=31) (p:=4) rfl ?_);refine store_box rfl rfl rfl (g:=w.heap.size + 1) (j:=0) (cs := #[.int .i64 0, .int .i64 0, .int .i64 0, .int .i64 0, .int .i64 0, .int .i64 0, .bool false, .int .u32 0, .bool false, .int .i64 0, .slice none 0 0]) (cs' := #[.int .i64 T.field, .int .i64 (T.left - 1), .int .i64 T.run, .int .i64 T.level, .int .i64 T.crc, .int .i64 T.acc, .bool T.ext, .int .u32 T.id, .bool T.rtr, .int .i64 T.dlc,(.slice A5 T.data.length c5)]) (T:=31) (u := .agg #[.int .i64 T.field, .int .i64 (T.left - 1), .int .i64 T.run, .int .i64 T.level, .int .i64 T.crc, .int .i64 T.acc, .bool T.ext, .int .u32 T.id, .bool T.rtr, .int .i64 T.dlc,(.slice A5 T.data.length c5)]) (seg := [.int .i64 T.field, .int .i64 (T.left - 1), .int .i64 T.run, .int .i64 T.level, .int .i64 T.crc, .int .i64 T.acc, .bool T.ext, .int .u32 T.id, .bool T.rtr, .int .i64 T.dlc,(.slice A5 T.data.length c5)]) rfl rfl HW8.out.res rfl (by kernel_rfl) rfl rfl rfl ?_;intro wz hx hT;have HX:=Lib.hid hx;have HTZ:=Lib.hid hT;have HBz:=Lib.hid (hT.below HW8.out.below HW8.out.below.size (fun k hk => by omega));clear hx hT)
  refine bodyPost_ret (results_ct rfl _ _ (w.heap.size + 1) 31 #[.int .i64 T.field, .int .i64 (T.left - 1), .int .i64 T.run, .int .i64 T.level, .int .i64 T.crc, .int .i64 T.acc, .bool T.ext, .int .u32 T.id, .bool T.rtr, .int .i64 T.dlc,(.slice A5 T.data.length c5)] (0,0) _ rfl HX.out Tryd.underlying31 rfl (by kernel_rfl)) rfl ?_
  rw [HSTEP.out]
  exact ⟨_,rfl,Kd.R_mono (HTZ.out.R HW8.out.row (fun k hk e => by omega)) (fun _ _ => trivial),HBz.out⟩
end Go.Proofs.YtdoclpgciadjaaaDoor.P

namespace Go.Proofs.YtdoclpgciadjaaaDoor.P
open Go.RowKit Go.Proofs.YtdoclpgciadjaaaDoorW.PrintWords Go.Proofs.YtdoclpgciadjaaaDoorW.PrintLast Go.Proofs.YtdoclpgciadjaaaDoorW.PrintMore
set_option linter.unusedVariables false
set_option linter.unusedSimpArgs false
set_option maxHeartbeats 1000000 in
set_option maxRecDepth 100000 in
theorem scan_quiet_0_1 (w : World) (s : SS) (A : Option Addr) (c : Nat) (hr : Kd.C (Kd.int .u8) w A s.data.length s.data) (hc : s.data.length ≤ c) (hG : LaidRows w) (hs : Sound s) (i0 : 0 ≤ s.id) (hby : ∀ x ∈ s.data,0 ≤ x ∧ x < 256) (h5 : s.run ≠ 5) (hv : verdictV s 0 = 1) (hlim : s.field = 14 → s.left ≠ 1) (hq : 10 < s.field) :
  Calls Tryd.prog 8 #[.agg #[.int .i64 s.field, .int .i64 s.left, .int .i64 s.run, .int .i64 s.level, .int .i64 s.crc, .int .i64 s.acc, .bool s.ext, .int .u32 s.id, .bool s.rtr, .int .i64 s.dlc,(.slice A s.data.length c)], .int .i64 0] w fun e w' => ∃ v : Value,e = .returned (.tuple #[.agg #[.int .i64 (stepS (takeS (crcT (runS s 0) 0) 0)).field, .int .i64 (stepS (takeS (crcT (runS s 0) 0) 0)).left, .int .i64 (stepS (takeS (crcT (runS s 0) 0) 0)).run, .int .i64 (stepS (takeS (crcT (runS s 0) 0) 0)).level, .int .i64 (stepS (takeS (crcT (runS s 0) 0) 0)).crc, .int .i64 (stepS (takeS (crcT (runS s 0) 0) 0)).acc, .bool (stepS (takeS (crcT (runS s 0) 0) 0)).ext, .int .u32 (stepS (takeS (crcT (runS s 0) 0) 0)).id, .bool (stepS (takeS (crcT (runS s 0) 0) 0)).rtr, .int .i64 (stepS (takeS (crcT (runS s 0) 0) 0)).dlc,v], .int .i64 1]) ∧ Kd.R (Kd.int .u8) 5 w' w.heap.size (fun _ => True) v (stepS (takeS (crcT (runS s 0) 0) 0)).data ∧ Below w.heap.size w w':=by
 have HR:=Lib.hid hr
 have HC:=Lib.hid hc
 have HG:=Lib.hid hG
 clear hr hc hG
 have HS:=Lib.hid hs
 have HCP : Hid (impl_copyFrame.f s.ext s.id s.rtr s.dlc s.data = some (s.ext,s.id,s.rtr,s.dlc,s.data)):=Lib.hid (copy_eq (by have:=hs.dl;omega))
 have HSB : Hid (impl_Scan_sound.f 10 s.field s.left s.run s.level s.crc s.acc s.ext s.id s.rtr s.dlc s.data = some true):=Lib.hid (by rw [soundI,soundB_true hs])
 have HVB : Hid (impl_Scan_verdict.f 10 s.field s.left s.run s.level s.crc s.acc s.ext s.id s.rtr s.dlc s.data 0 = some 1):=Lib.hid (by rw [verdictI,hv])
 have b5 : (s.run == 5) = false:=beq_eq_false_iff_ne.mpr h5
 have r0:=hs.r0
 have r1:=hs.r1
 have f0:=hs.f0
 have HE1 : Hid (crcT (runS s 0) 0 = ({ s with run:=0,level:=0 } : SS)):=Lib.hid (by rw [show runS s 0 = ({ s with run:=0,level:=0 } : SS) by unfold runS;rw [if_pos hq]];unfold crcT;rw [if_neg (show ¬ s.field ≤ 9 by omega)])
 have HOK : Hid (SOk ({ s with run:=0,level:=0 } : SS)):=Lib.hid (by have h:=hs.ok i0 hby;exact ⟨h.f0,h.f1,h.l0,h.l1,h.d0,h.d1,h.i0,h.i1,h.a0,h.a1,h.ne,h.by_,h.dl⟩)
 have HTK : Hid ((takeS ({ s with run:=0,level:=0 } : SS) 0).field = s.field ∧ (takeS ({ s with run:=0,level:=0 } : SS) 0).left = s.left):=Lib.hid (takeS_keep _ _)
 have HTD : Hid (0 ≤ (takeS ({ s with run:=0,level:=0 } : SS) 0).dlc ∧ (takeS ({ s with run:=0,level:=0 } : SS) 0).dlc ≤ 15):=Lib.hid (takeS_dlc (s := { s with run:=0,level:=0 }) hs.d0 hs.d1 _)
 have HF : Hid (1 ≤ s.field ∧ s.field ≤ 14 ∧ 1 ≤ s.left ∧ s.left ≤ 64 ∧ (s.field = 14 → s.left ≠ 1)):=Lib.hid ⟨hs.f0,hs.f1,hs.l0,by have:=(sizeF_le hs.f0 hs.f1 hs.d0).2;have:=hs.l1;omega,hlim⟩
 clear hs i0 hby h5 hv hlim
 rw [HE1.out]
 generalize hTT : takeS ({ s with run:=0,level:=0 } : SS) 0 = T at HTK HTD ⊢
 have HTT:=Lib.hid hTT
 clear hTT
 go_enter Tryd.func8,Tryd.ntmps8
 go_wp2_with (fail)
 (refine (impl_Scan_sound.calls 10 s.field s.left s.run s.level s.crc s.acc s.ext s.id s.rtr s.dlc A c s.data true _ (Kd.C_alloc (Kd.C_alloc HR.out _) _) HC.out HSB.out (HG.out.alloc _ |>.alloc _)).mono ?_;rintro e w1 ⟨rfl,hb1⟩;have HW1:=Lib.hid ((SbIn.start w s (.slice A s.data.length c)).step hb1);clear hb1)
 have hx6:=cS6 HW1.out.box
 have hx7:=cS7 HW1.out.box
 have hx8:=cS8 HW1.out.box
 have hx9:=cS9 HW1.out.box
 have hx10:=cS10 HW1.out.box
 go_wp2_with (fail)
 clear hx6 hx7 hx8 hx9 hx10
 (refine (impl_copyFrame.calls s.ext s.id s.rtr s.dlc A c s.data s.ext s.id s.rtr s.dlc s.data _ (Kd.C_below HR.out HW1.out.below) HC.out HCP.out).mono ?_;rintro e w2 ⟨v2,rfl,hr2,hb2⟩;obtain ⟨A2,c2,rfl⟩:=Kd.R_slice hr2;have HR2:=Lib.hid hr2;have HB2:=Lib.hid hb2;have HW2:=Lib.hid (HW1.out.step hb2);clear hr2 hb2)
 go_wp2_with ((with_reducible refine gate_store (t:=29) (p:=22) rfl ?_);refine store_box rfl rfl rfl (g:=w.heap.size) (j:=6) (cs := #[.int .i64 s.field, .int .i64 s.left, .int .i64 s.run, .int .i64 s.level, .int .i64 s.crc, .int .i64 s.acc, .bool s.ext, .int .u32 s.id, .bool s.rtr, .int .i64 s.dlc,(.slice A s.data.length c)]) (cs' := #[.int .i64 s.field, .int .i64 s.left, .int .i64 s.run, .int .i64 s.level, .int .i64 s.crc, .int .i64 s.acc, .bool s.ext, .int .u32 s.id, .bool s.rtr, .int .i64 s.dlc,(.slice A2 s.data.length c2)]) (T:=31) (u := .agg #[.bool s.ext, .int .u32 s.id, .bool s.rtr, .int .i64 s.dlc,(.slice A2 s.data.length c2)]) (seg := [.bool s.ext, .int .u32 s.id, .bool s.rtr, .int .i64 s.dlc,(.slice A2 s.data.length c2)]) rfl rfl HW2.out.box rfl (by kernel_rfl) rfl rfl rfl ?_;intro w3 hx hT;have HW3:=Lib.hid (SbO.ofCopy HW1.out HB2.out HR2.out hx hT);clear hx hT;obtain ⟨hc0,hc1,hc2,hc3,hc4,hc5,hc6,hc7,hc8,hc9,hc10⟩:=cSall HW3.out.box;obtain ⟨hf0,hf1,hf2,hf3,hf4,hf5,hf6,hf7,hf8,hf9,hf10⟩:=fSall HW3.out.box)
 (refine (impl_Scan_verdict.calls 10 s.field s.left s.run s.level s.crc s.acc s.ext s.id s.rtr s.dlc A2 c2 s.data 0 1 _ (Kd.R_reads' HW3.out.row).2.2 (Kd.R_reads' HW3.out.row).2.1 HVB.out).mono ?_;rintro e w4 ⟨rfl,hb4⟩;have HW4:=Lib.hid (HW3.out.step hb4);clear hb4;clear hc0 hc1 hc2 hc3 hc4 hc5 hc6 hc7 hc8 hc9 hc10 hf0 hf1 hf2 hf3 hf4 hf5 hf6 hf7 hf8 hf9 hf10;obtain ⟨hc0,hc1,hc2,hc3,hc4,hc5,hc6,hc7,hc8,hc9,hc10⟩:=cSall HW4.out.box;obtain ⟨hf0,hf1,hf2,hf3,hf4,hf5,hf6,hf7,hf8,hf9,hf10⟩:=fSall HW4.out.box)
 go_wp2_with (fail)
 have HW6 : Hid (SbO w _ ({ s with run:=0,level:=0 } : SS) _):=Lib.hid ((HW4.out.put (setS2 HW4.out.box (0)) rfl).put (setS3 (setS2 HW4.out.box (0)) (0)) rfl)
 (refine (impl_Scan_plain.calls w.heap.size _ ({ s with run:=0,level:=0 } : SS) 0 (by omega) (fun k => w.heap.size + 1 < k) w _ HW6.out.toIn (Nat.le_refl _) (by (try simp only []);omega) HOK.out).mono ?_;intro e w5 hE;obtain ⟨v5,h7⟩:=HW6.out.ofEnd hE;have hret:=hE.ret;subst hret;clear hE)
 rw [HTT.out] at h7
 obtain ⟨A5,c5,rfl,hC5,hc5⟩:=h7.open_
 have HW7:=Lib.hid h7
 clear h7 hC5 hc5 HTT HW6 HE1 HOK
 clear hc0 hc1 hc2 hc3 hc4 hc5 hc6 hc7 hc8 hc9 hc10 hf0 hf1 hf2 hf3 hf4 hf5 hf6 hf7 hf8 hf9 hf10
 obtain ⟨hc0,hc1,hc2,hc3,hc4,hc5,hc6,hc7,hc8,hc9,hc10⟩:=cSall HW7.out.box
 obtain ⟨hf0,hf1,hf2,hf3,hf4,hf5,hf6,hf7,hf8,hf9,hf10⟩:=fSall HW7.out.box
 have tl0 : 1 ≤ T.left:=by have:=HTK.out;have:=HF.out;omega
 have tl1 : T.left ≤ 64:=by have:=HTK.out;have:=HF.out;omega
 have HW8:=Lib.hid (HW7.out.put (setS1 HW7.out.box (T.left - 1)) rfl)
 by_cases hL : T.left - 1 = 0
 ·have bL : (T.left - 1 == 0) = true:=beq_iff_eq.mpr hL
  have HL0:=Lib.hid hL
  have HSTEP : Hid (stepS T = enterS T (afterF T)):=Lib.hid (by unfold stepS;rw [if_pos hL])
  have HAR : Hid (1 ≤ afterF T ∧ afterF T ≤ 14):=Lib.hid (by have h1:=HTK.out;have h2:=HF.out;exact afterF_range (by omega) (by omega))
  have HAI : Hid (impl_fieldAfter.f T.field T.ext T.id T.rtr T.dlc T.data = some (afterF T)):=Lib.hid (by have h1:=HTK.out;have h2:=HF.out;exact afterI (by omega) (by omega))
  have HSI : Hid (impl_fieldSize.f (afterF T) T.ext T.id T.rtr T.dlc T.data = some (sizeF { T with field:=afterF T })):=Lib.hid (sizeI (s := { T with field:=afterF T }) HAR.out.1 HAR.out.2 HTD.out.1 HTD.out.2)
  generalize afterF T = AF at HSTEP HAR HAI HSI
  clear hL
  go_wp2_with (fail)
  (refine (impl_fieldAfter.calls T.field T.ext T.id T.rtr T.dlc A5 c5 T.data AF _ (Kd.R_reads' HW8.out.row).2.2 (Kd.R_reads' HW8.out.row).2.1 HAI.out (HG.out.next HW8.out.below)).mono ?_;rintro e w9 ⟨rfl,hb9⟩;have HW9:=Lib.hid (HW8.out.step hb9);clear hb9;clear hc0 hc1 hc2 hc3 hc4 hc5 hc6 hc7 hc8 hc9 hc10 hf0 hf1 hf2 hf3 hf4 hf5 hf6 hf7 hf8 hf9 hf10;obtain ⟨hc0,hc1,hc2,hc3,hc4,hc5,hc6,hc7,hc8,hc9,hc10⟩:=cSall HW9.out.box;obtain ⟨hf0,hf1,hf2,hf3,hf4,hf5,hf6,hf7,hf8,hf9,hf10⟩:=fSall HW9.out.box)
  have HW10:=Lib.hid (HW9.out.put (setS0 HW9.out.box AF) rfl)
  go_wp2_with (fail)
  (refine (impl_fieldSize.calls AF T.ext T.id T.rtr T.dlc A5 c5 T.data _ _ (Kd.R_reads' HW10.out.row).2.2 (Kd.R_reads' HW10.out.row).2.1 HSI.out (HG.out.next HW10.out.below)).mono ?_;rintro e w11 ⟨rfl,hb11⟩;have HW11:=Lib.hid (HW10.out.step hb11);clear hb11;clear hc0 hc1 hc2 hc3 hc4 hc5 hc6 hc7 hc8 hc9 hc10 hf0 hf1 hf2 hf3 hf4 hf5 hf6 hf7 hf8 hf9 hf10;obtain ⟨hc0,hc1,hc2,hc3,hc4,hc5,hc6,hc7,hc8,hc9,hc10⟩:=cSall HW11.out.box;obtain ⟨hf0,hf1,hf2,hf3,hf4,hf5,hf6,hf7,hf8,hf9,hf10⟩:=fSall HW11.out.box)
  generalize hSZ : sizeF { T with field:=AF } = SZ at HSI ⊢
  have HSZ:=Lib.hid hSZ
  clear hSZ
  have HW12:=Lib.hid (HW11.out.put (setS1 HW11.out.box SZ) rfl)
  by_cases h9 : AF = 9
  ·have b9 : (AF == 9) = true:=beq_iff_eq.mpr h9
   have HH9:=Lib.hid h9
   clear h9
   have hns:=HW12.out.nil
   have hsz12 : (w11.setCell ⟨w.heap.size,1,none⟩ (.int .i64 SZ)).heap.size = w11.heap.size:=by simp [World.setCell]
   rw [hsz12] at hns
   have HW13:=Lib.hid hns
   clear hns hsz12
   obtain ⟨hg0,hg1,hg2,hg3,hg4,hg5,hg6,hg7,hg8,hg9,hg10⟩:=cSall (blk_alloc HW12.out.box (.cells #[] 5))
   have hgf:=fS (blk_alloc HW12.out.box (.cells #[] 5)) 10
   go_wp2_with ((with_reducible refine gate_store (t:=31) (p:=4) rfl ?_);refine store_box rfl rfl rfl (g:=w.heap.size + 1) (j:=0) (cs := #[.int .i64 0, .int .i64 0, .int .i64 0, .int .i64 0, .int .i64 0, .int .i64 0, .bool false, .int .u32 0, .bool false, .int .i64 0, .slice none 0 0]) (cs' := #[.int .i64 AF, .int .i64 SZ, .int .i64 T.run, .int .i64 T.level, .int .i64 T.crc, .int .i64 T.acc, .bool T.ext, .int .u32 T.id, .bool T.rtr, .int .i64 T.dlc,(.slice (some ⟨w11.heap.size,0,none⟩) 0 0)]) (T:=31) (u := .agg #[.int .i64 AF, .int .i64 SZ, .int .i64 T.run, .int .i64 T.level, .int .i64 T.crc, .int .i64 T.acc, .bool T.ext, .int .u32 T.id, .bool T.rtr, .int .i64 T.dlc,(.slice (some ⟨w11.heap.size,0,none⟩) 0 0)]) (seg := [.int .i64 AF, .int .i64 SZ, .int .i64 T.run, .int .i64 T.level, .int .i64 T.crc, .int .i64 T.acc, .bool T.ext, .int .u32 T.id, .bool T.rtr, .int .i64 T.dlc,(.slice (some ⟨w11.heap.size,0,none⟩) 0 0)]) rfl rfl HW13.out.res rfl (by kernel_rfl) rfl rfl rfl ?_;intro wz hx hT;have HX:=Lib.hid hx;have HTZ:=Lib.hid hT;have HBz:=Lib.hid (hT.below HW13.out.below HW13.out.below.size (fun k hk => by omega));clear hx hT)
   refine bodyPost_ret (results_ct rfl _ _ (w.heap.size + 1) 31 #[.int .i64 AF, .int .i64 SZ, .int .i64 T.run, .int .i64 T.level, .int .i64 T.crc, .int .i64 T.acc, .bool T.ext, .int .u32 T.id, .bool T.rtr, .int .i64 T.dlc,(.slice (some ⟨w11.heap.size,0,none⟩) 0 0)] (0,0) _ rfl HX.out Tryd.underlying31 rfl (by kernel_rfl)) rfl ?_
   rw [HSTEP.out,show enterS T AF = { T with field:=AF,left:=SZ,data := [] } by unfold enterS;rw [if_pos HH9.out,HSZ.out]]
   exact ⟨_,rfl,Kd.R_mono (HTZ.out.R HW13.out.row (fun k hk e => by omega)) (fun _ _ => trivial),HBz.out⟩
  ·have b9 : (AF == 9) = false:=beq_eq_false_iff_ne.mpr h9
   have HH9:=Lib.hid h9
   clear h9
   go_wp2_with ((with_reducible refine gate_store (t:=31) (p:=4) rfl ?_);refine store_box rfl rfl rfl (g:=w.heap.size + 1) (j:=0) (cs := #[.int .i64 0, .int .i64 0, .int .i64 0, .int .i64 0, .int .i64 0, .int .i64 0, .bool false, .int .u32 0, .bool false, .int .i64 0, .slice none 0 0]) (cs' := #[.int .i64 AF, .int .i64 SZ, .int .i64 T.run, .int .i64 T.level, .int .i64 T.crc, .int .i64 T.acc, .bool T.ext, .int .u32 T.id, .bool T.rtr, .int .i64 T.dlc,(.slice A5 T.data.length c5)]) (T:=31) (u := .agg #[.int .i64 AF, .int .i64 SZ, .int .i64 T.run, .int .i64 T.level, .int .i64 T.crc, .int .i64 T.acc, .bool T.ext, .int .u32 T.id, .bool T.rtr, .int .i64 T.dlc,(.slice A5 T.data.length c5)]) (seg := [.int .i64 AF, .int .i64 SZ, .int .i64 T.run, .int .i64 T.level, .int .i64 T.crc, .int .i64 T.acc, .bool T.ext, .int .u32 T.id, .bool T.rtr, .int .i64 T.dlc,(.slice A5 T.data.length c5)]) rfl rfl HW12.out.res rfl (by kernel_rfl) rfl rfl rfl ?_;intro wz hx hT;have HX:=Lib.hid hx;have HTZ:=Lib.hid hT;have HBz:=Lib.hid (hT.below HW12.out.below HW12.out.below.size (fun k hk => by omega));clear hx hT)
   refine bodyPost_ret (results_ct rfl _ _ (w.heap.size + 1) 31 #[.int .i64 AF, .int .i64 SZ, .int .i64 T.run, .int .i64 T.level, .int .i64 T.crc, .int .i64 T.acc, .bool T.ext, .int .u32 T.id, .bool T.rtr, .int .i64 T.dlc,(.slice A5 T.data.length c5)] (0,0) _ rfl HX.out Tryd.underlying31 rfl (by kernel_rfl)) rfl ?_
   rw [HSTEP.out,show enterS T AF = { T with field:=AF,left:=SZ } by unfold enterS;rw [if_neg HH9.out,HSZ.out]]
   exact ⟨_,rfl,Kd.R_mono (HTZ.out.R HW12.out.row (fun k hk e => by omega)) (fun _ _ => trivial),HBz.out⟩
 ·have bL : (T.left - 1 == 0) = false:=beq_eq_false_iff_ne.mpr hL
  have HL0:=Lib.hid hL
  have HSTEP : Hid (stepS T = { T with left:=T.left - 1 }):=Lib.hid (by unfold stepS;rw [if_neg hL])
  clear hL
  go_wp2_with ((with_reducible refine gate_store (t:=31) (p:=4) rfl ?_);refine store_box rfl rfl rfl (g:=w.heap.size + 1) (j:=0) (cs := #[.int .i64 0, .int .i64 0, .int .i64 0, .int .i64 0, .int .i64 0, .int .i64 0, .bool false, .int .u32 0, .bool false, .int .i64 0, .slice none 0 0]) (cs' := #[.int .i64 T.field, .int .i64 (T.left - 1), .int .i64 T.run, .int .i64 T.level, .int .i64 T.crc, .int .i64 T.acc, .bool T.ext, .int .u32 T.id, .bool T.rtr, .int .i64 T.dlc,(.slice A5 T.data.length c5)]) (T:=31) (u := .agg #[.int .i64 T.field, .int .i64 (T.left - 1), .int .i64 T.run, .int .i64 T.level, .int .i64 T.crc, .int .i64 T.acc, .bool T.ext, .int .u32 T.id, .bool T.rtr, .int .i64 T.dlc,(.slice A5 T.data.length c5)]) (seg := [.int .i64 T.field, .int .i64 (T.left - 1), .int .i64 T.run, .int .i64 T.level, .int .i64 T.crc, .int .i64 T.acc, .bool T.ext, .int .u32 T.id, .bool T.rtr, .int .i64 T.dlc,(.slice A5 T.data.length c5)]) rfl rfl HW8.out.res rfl (by kernel_rfl) rfl rfl rfl ?_;intro wz hx hT;have HX:=Lib.hid hx;have HTZ:=Lib.hid hT;have HBz:=Lib.hid (hT.below HW8.out.below HW8.out.below.size (fun k hk => by omega));clear hx hT)
  refine bodyPost_ret (results_ct rfl _ _ (w.heap.size + 1) 31 #[.int .i64 T.field, .int .i64 (T.left - 1), .int .i64 T.run, .int .i64 T.level, .int .i64 T.crc, .int .i64 T.acc, .bool T.ext, .int .u32 T.id, .bool T.rtr, .int .i64 T.dlc,(.slice A5 T.data.length c5)] (0,0) _ rfl HX.out Tryd.underlying31 rfl (by kernel_rfl)) rfl ?_
  rw [HSTEP.out]
  exact ⟨_,rfl,Kd.R_mono (HTZ.out.R HW8.out.row (fun k hk e => by omega)) (fun _ _ => trivial),HBz.out⟩
end Go.Proofs.YtdoclpgciadjaaaDoor.P

namespace Go.Proofs.YtdoclpgciadjaaaDoor.P
open Go.RowKit Go.Proofs.YtdoclpgciadjaaaDoorW.PrintWords Go.Proofs.YtdoclpgciadjaaaDoorW.PrintLast Go.Proofs.YtdoclpgciadjaaaDoorW.PrintMore
set_option linter.unusedVariables false
set_option linter.unusedSimpArgs false
set_option maxHeartbeats 1000000 in
set_option maxRecDepth 100000 in
theorem scan_quiet_1_1 (w : World) (s : SS) (A : Option Addr) (c : Nat) (hr : Kd.C (Kd.int .u8) w A s.data.length s.data) (hc : s.data.length ≤ c) (hG : LaidRows w) (hs : Sound s) (i0 : 0 ≤ s.id) (hby : ∀ x ∈ s.data,0 ≤ x ∧ x < 256) (h5 : s.run ≠ 5) (hv : verdictV s 1 = 1) (hlim : s.field = 14 → s.left ≠ 1) (hq : 10 < s.field) :
  Calls Tryd.prog 8 #[.agg #[.int .i64 s.field, .int .i64 s.left, .int .i64 s.run, .int .i64 s.level, .int .i64 s.crc, .int .i64 s.acc, .bool s.ext, .int .u32 s.id, .bool s.rtr, .int .i64 s.dlc,(.slice A s.data.length c)], .int .i64 1] w fun e w' => ∃ v : Value,e = .returned (.tuple #[.agg #[.int .i64 (stepS (takeS (crcT (runS s 1) 1) 1)).field, .int .i64 (stepS (takeS (crcT (runS s 1) 1) 1)).left, .int .i64 (stepS (takeS (crcT (runS s 1) 1) 1)).run, .int .i64 (stepS (takeS (crcT (runS s 1) 1) 1)).level, .int .i64 (stepS (takeS (crcT (runS s 1) 1) 1)).crc, .int .i64 (stepS (takeS (crcT (runS s 1) 1) 1)).acc, .bool (stepS (takeS (crcT (runS s 1) 1) 1)).ext, .int .u32 (stepS (takeS (crcT (runS s 1) 1) 1)).id, .bool (stepS (takeS (crcT (runS s 1) 1) 1)).rtr, .int .i64 (stepS (takeS (crcT (runS s 1) 1) 1)).dlc,v], .int .i64 1]) ∧ Kd.R (Kd.int .u8) 5 w' w.heap.size (fun _ => True) v (stepS (takeS (crcT (runS s 1) 1) 1)).data ∧ Below w.heap.size w w':=by
 have HR:=Lib.hid hr
 have HC:=Lib.hid hc
 have HG:=Lib.hid hG
 clear hr hc hG
 have HS:=Lib.hid hs
 have HCP : Hid (impl_copyFrame.f s.ext s.id s.rtr s.dlc s.data = some (s.ext,s.id,s.rtr,s.dlc,s.data)):=Lib.hid (copy_eq (by have:=hs.dl;omega))
 have HSB : Hid (impl_Scan_sound.f 10 s.field s.left s.run s.level s.crc s.acc s.ext s.id s.rtr s.dlc s.data = some true):=Lib.hid (by rw [soundI,soundB_true hs])
 have HVB : Hid (impl_Scan_verdict.f 10 s.field s.left s.run s.level s.crc s.acc s.ext s.id s.rtr s.dlc s.data 1 = some 1):=Lib.hid (by rw [verdictI,hv])
 have b5 : (s.run == 5) = false:=beq_eq_false_iff_ne.mpr h5
 have r0:=hs.r0
 have r1:=hs.r1
 have f0:=hs.f0
 have HE1 : Hid (crcT (runS s 1) 1 = ({ s with run:=0,level:=0 } : SS)):=Lib.hid (by rw [show runS s 1 = ({ s with run:=0,level:=0 } : SS) by unfold runS;rw [if_pos hq]];unfold crcT;rw [if_neg (show ¬ s.field ≤ 9 by omega)])
 have HOK : Hid (SOk ({ s with run:=0,level:=0 } : SS)):=Lib.hid (by have h:=hs.ok i0 hby;exact ⟨h.f0,h.f1,h.l0,h.l1,h.d0,h.d1,h.i0,h.i1,h.a0,h.a1,h.ne,h.by_,h.dl⟩)
 have HTK : Hid ((takeS ({ s with run:=0,level:=0 } : SS) 1).field = s.field ∧ (takeS ({ s with run:=0,level:=0 } : SS) 1).left = s.left):=Lib.hid (takeS_keep _ _)
 have HTD : Hid (0 ≤ (takeS ({ s with run:=0,level:=0 } : SS) 1).dlc ∧ (takeS ({ s with run:=0,level:=0 } : SS) 1).dlc ≤ 15):=Lib.hid (takeS_dlc (s := { s with run:=0,level:=0 }) hs.d0 hs.d1 _)
 have HF : Hid (1 ≤ s.field ∧ s.field ≤ 14 ∧ 1 ≤ s.left ∧ s.left ≤ 64 ∧ (s.field = 14 → s.left ≠ 1)):=Lib.hid ⟨hs.f0,hs.f1,hs.l0,by have:=(sizeF_le hs.f0 hs.f1 hs.d0).2;have:=hs.l1;omega,hlim⟩
 clear hs i0 hby h5 hv hlim
 rw [HE1.out]
 generalize hTT : takeS ({ s with run:=0,level:=0 } : SS) 1 = T at HTK HTD ⊢
 have HTT:=Lib.hid hTT
 clear hTT
 go_enter Tryd.func8,Tryd.ntmps8
 go_wp2_with (fail)
 (refine (impl_Scan_sound.calls 10 s.field s.left s.run s.level s.crc s.acc s.ext s.id s.rtr s.dlc A c s.data true _ (Kd.C_alloc (Kd.C_alloc HR.out _) _) HC.out HSB.out (HG.out.alloc _ |>.alloc _)).mono ?_;rintro e w1 ⟨rfl,hb1⟩;have HW1:=Lib.hid ((SbIn.start w s (.slice A s.data.length c)).step hb1);clear hb1)
 have hx6:=cS6 HW1.out.box
 have hx7:=cS7 HW1.out.box
 have hx8:=cS8 HW1.out.box
 have hx9:=cS9 HW1.out.box
 have hx10:=cS10 HW1.out.box
 go_wp2_with (fail)
 clear hx6 hx7 hx8 hx9 hx10
 (refine (impl_copyFrame.calls s.ext s.id s.rtr s.dlc A c s.data s.ext s.id s.rtr s.dlc s.data _ (Kd.C_below HR.out HW1.out.below) HC.out HCP.out).mono ?_;rintro e w2 ⟨v2,rfl,hr2,hb2⟩;obtain ⟨A2,c2,rfl⟩:=Kd.R_slice hr2;have HR2:=Lib.hid hr2;have HB2:=Lib.hid hb2;have HW2:=Lib.hid (HW1.out.step hb2);clear hr2 hb2)
 go_wp2_with ((with_reducible refine gate_store (t:=29) (p:=22) rfl ?_);refine store_box rfl rfl rfl (g:=w.heap.size) (j:=6) (cs := #[.int .i64 s.field, .int .i64 s.left, .int .i64 s.run, .int .i64 s.level, .int .i64 s.crc, .int .i64 s.acc, .bool s.ext, .int .u32 s.id, .bool s.rtr, .int .i64 s.dlc,(.slice A s.data.length c)]) (cs' := #[.int .i64 s.field, .int .i64 s.left, .int .i64 s.run, .int .i64 s.level, .int .i64 s.crc, .int .i64 s.acc, .bool s.ext, .int .u32 s.id, .bool s.rtr, .int .i64 s.dlc,(.slice A2 s.data.length c2)]) (T:=31) (u := .agg #[.bool s.ext, .int .u32 s.id, .bool s.rtr, .int .i64 s.dlc,(.slice A2 s.data.length c2)]) (seg := [.bool s.ext, .int .u32 s.id, .bool s.rtr, .int .i64 s.dlc,(.slice A2 s.data.length c2)]) rfl rfl HW2.out.box rfl (by kernel_rfl) rfl rfl rfl ?_;intro w3 hx hT;have HW3:=Lib.hid (SbO.ofCopy HW1.out HB2.out HR2.out hx hT);clear hx hT;obtain ⟨hc0,hc1,hc2,hc3,hc4,hc5,hc6,hc7,hc8,hc9,hc10⟩:=cSall HW3.out.box;obtain ⟨hf0,hf1,hf2,hf3,hf4,hf5,hf6,hf7,hf8,hf9,hf10⟩:=fSall HW3.out.box)
 (refine (impl_Scan_verdict.calls 10 s.field s.left s.run s.level s.crc s.acc s.ext s.id s.rtr s.dlc A2 c2 s.data 1 1 _ (Kd.R_reads' HW3.out.row).2.2 (Kd.R_reads' HW3.out.row).2.1 HVB.out).mono ?_;rintro e w4 ⟨rfl,hb4⟩;have HW4:=Lib.hid (HW3.out.step hb4);clear hb4;clear hc0 hc1 hc2 hc3 hc4 hc5 hc6 hc7 hc8 hc9 hc10 hf0 hf1 hf2 hf3 hf4 hf5 hf6 hf7 hf8 hf9 hf10;obtain ⟨hc0,hc1,hc2,hc3,hc4,hc5,hc6,hc7,hc8,hc9,hc10⟩:=cSall HW4.out.box;obtain ⟨hf0,hf1,hf2,hf3,hf4,hf5,hf6,hf7,hf8,hf9,hf10⟩:=fSall HW4.out.box)
 go_wp2_with (fail)
 have HW6 : Hid (SbO w _ ({ s with run:=0,level:=0 } : SS) _):=Lib.hid ((HW4.out.put (setS2 HW4.out.box (0)) rfl).put (setS3 (setS2 HW4.out.box (0)) (0)) rfl)
 (refine (impl_Scan_plain.calls w.heap.size _ ({ s with run:=0,level:=0 } : SS) 1 (by omega) (fun k => w.heap.size + 1 < k) w _ HW6.out.toIn (Nat.le_refl _) (by (try simp only []);omega) HOK.out).mono ?_;intro e w5 hE;obtain ⟨v5,h7⟩:=HW6.out.ofEnd hE;have hret:=hE.ret;subst hret;clear hE)
 rw [HTT.out] at h7
 obtain ⟨A5,c5,rfl,hC5,hc5⟩:=h7.open_
 have HW7:=Lib.hid h7
 clear h7 hC5 hc5 HTT HW6 HE1 HOK
 clear hc0 hc1 hc2 hc3 hc4 hc5 hc6 hc7 hc8 hc9 hc10 hf0 hf1 hf2 hf3 hf4 hf5 hf6 hf7 hf8 hf9 hf10
 obtain ⟨hc0,hc1,hc2,hc3,hc4,hc5,hc6,hc7,hc8,hc9,hc10⟩:=cSall HW7.out.box
 obtain ⟨hf0,hf1,hf2,hf3,hf4,hf5,hf6,hf7,hf8,hf9,hf10⟩:=fSall HW7.out.box
 have tl0 : 1 ≤ T.left:=by have:=HTK.out;have:=HF.out;omega
 have tl1 : T.left ≤ 64:=by have:=HTK.out;have:=HF.out;omega
 have HW8:=Lib.hid (HW7.out.put (setS1 HW7.out.box (T.left - 1)) rfl)
 by_cases hL : T.left - 1 = 0
 ·have bL : (T.left - 1 == 0) = true:=beq_iff_eq.mpr hL
  have HL0:=Lib.hid hL
  have HSTEP : Hid (stepS T = enterS T (afterF T)):=Lib.hid (by unfold stepS;rw [if_pos hL])
  have HAR : Hid (1 ≤ afterF T ∧ afterF T ≤ 14):=Lib.hid (by have h1:=HTK.out;have h2:=HF.out;exact afterF_range (by omega) (by omega))
  have HAI : Hid (impl_fieldAfter.f T.field T.ext T.id T.rtr T.dlc T.data = some (afterF T)):=Lib.hid (by have h1:=HTK.out;have h2:=HF.out;exact afterI (by omega) (by omega))
  have HSI : Hid (impl_fieldSize.f (afterF T) T.ext T.id T.rtr T.dlc T.data = some (sizeF { T with field:=afterF T })):=Lib.hid (sizeI (s := { T with field:=afterF T }) HAR.out.1 HAR.out.2 HTD.out.1 HTD.out.2)
  generalize afterF T = AF at HSTEP HAR HAI HSI
  clear hL
  go_wp2_with (fail)
  (refine (impl_fieldAfter.calls T.field T.ext T.id T.rtr T.dlc A5 c5 T.data AF _ (Kd.R_reads' HW8.out.row).2.2 (Kd.R_reads' HW8.out.row).2.1 HAI.out (HG.out.next HW8.out.below)).mono ?_;rintro e w9 ⟨rfl,hb9⟩;have HW9:=Lib.hid (HW8.out.step hb9);clear hb9;clear hc0 hc1 hc2 hc3 hc4 hc5 hc6 hc7 hc8 hc9 hc10 hf0 hf1 hf2 hf3 hf4 hf5 hf6 hf7 hf8 hf9 hf10;obtain ⟨hc0,hc1,hc2,hc3,hc4,hc5,hc6,hc7,hc8,hc9,hc10⟩:=cSall HW9.out.box;obtain ⟨hf0,hf1,hf2,hf3,hf4,hf5,hf6,hf7,hf8,hf9,hf10⟩:=fSall HW9.out.box)
  have HW10:=Lib.hid (HW9.out.put (setS0 HW9.out.box AF) rfl)
  go_wp2_with (fail)
  (refine (impl_fieldSize.calls AF T.ext T.id T.rtr T.dlc A5 c5 T.data _ _ (Kd.R_reads' HW10.out.row).2.2 (Kd.R_reads' HW10.out.row).2.1 HSI.out (HG.out.next HW10.out.below)).mono ?_;rintro e w11 ⟨rfl,hb11⟩;have HW11:=Lib.hid (HW10.out.step hb11);clear hb11;clear hc0 hc1 hc2 hc3 hc4 hc5 hc6 hc7 hc8 hc9 hc10 hf0 hf1 hf2 hf3 hf4 hf5 hf6 hf7 hf8 hf9 hf10;obtain ⟨hc0,hc1,hc2,hc3,hc4,hc5,hc6,hc7,hc8,hc9,hc10⟩:=cSall HW11.out.box;obtain ⟨hf0,hf1,hf2,hf3,hf4,hf5,hf6,hf7,hf8,hf9,hf10⟩:=fSall HW11.out.box)
  generalize hSZ : sizeF { T with field:=AF } = SZ at HSI ⊢
  have HSZ:=Lib.hid hSZ
  clear hSZ
  have HW12:=Lib.hid (HW11.out.put (setS1 HW11.out.box SZ) rfl)
  by_cases h9 : AF = 9
  ·have b9 : (AF == 9) = true:=beq_iff_eq.mpr h9
   have HH9:=Lib.hid h9
   clear h9
   have hns:=HW12.out.nil
   have hsz12 : (w11.setCell ⟨w.heap.size,1,none⟩ (.int .i64 SZ)).heap.size = w11.heap.size:=by simp [World.setCell]
   rw [hsz12] at hns
   have HW13:=Lib.hid hns
   clear hns hsz12
   obtain ⟨hg0,hg1,hg2,hg3,hg4,hg5,hg6,hg7,hg8,hg9,hg10⟩:=cSall (blk_alloc HW12.out.box (.cells #[] 5))
   have hgf:=fS (blk_alloc HW12.out.box (.cells #[] 5)) 10
   go_wp2_with ((with_reducible refine gate_store (t:=31) (p:=4) rfl ?_);refine store_box rfl rfl rfl (g:=w.heap.size + 1) (j:=0) (cs := #[.int .i64 0, .int .i64 0, .int .i64 0, .int .i64 0, .int .i64 0, .int .i64 0, .bool false, .int .u32 0, .bool false, .int .i64 0, .slice none 0 0]) (cs' := #[.int .i64 AF, .int .i64 SZ, .int .i64 T.run, .int .i64 T.level, .int .i64 T.crc, .int .i64 T.acc, .bool T.ext, .int .u32 T.id, .bool T.rtr, .int .i64 T.dlc,(.slice (some ⟨w11.heap.size,0,none⟩) 0 0)]) (T:=31) (u := .agg #[.int .i64 AF, .int .i64 SZ, .int .i64 T.run, .int .i64 T.level, .int .i64 T.crc, .int .i64 T.acc, .bool T.ext, .int .u32 T.id, .bool T.rtr, .int .i64 T.dlc,(.slice (some ⟨w11.heap.size,0,none⟩) 0 0)]) (seg := [.int .i64 AF, .int .i64 SZ, .int .i64 T.run, .int .i64 T.level, .int .i64 T.crc, .int .i64 T.acc, .bool T.ext, .int .u32 T.id, .bool T.rtr, .int .i64 T.dlc,(.slice (some ⟨w11.heap.size,0,none⟩) 0 0)]) rfl rfl HW13.out.res rfl (by kernel_rfl) rfl rfl rfl ?_;intro wz hx hT;have HX:=Lib.hid hx;have HTZ:=Lib.hid hT;have HBz:=Lib.hid (hT.below HW13.out.below HW13.out.below.size (fun k hk => by omega));clear hx hT)
   refine bodyPost_ret (results_ct rfl _ _ (w.heap.size + 1) 31 #[.int .i64 AF, .int .i64 SZ, .int .i64 T.run, .int .i64 T.level, .int .i64 T.crc, .int .i64 T.acc, .bool T.ext, .int .u32 T.id, .bool T.rtr, .int .i64 T.dlc,(.slice (some ⟨w11.heap.size,0,none⟩) 0 0)] (0,0) _ rfl HX.out Tryd.underlying31 rfl (by kernel_rfl)) rfl ?_
   rw [HSTEP.out,show enterS T AF = { T with field:=AF,left:=SZ,data := [] } by unfold enterS;rw [if_pos HH9.out,HSZ.out]]
   exact ⟨_,rfl,Kd.R_mono (HTZ.out.R HW13.out.row (fun k hk e => by omega)) (fun _ _ => trivial),HBz.out⟩
  ·have b9 : (AF == 9) = false:=beq_eq_false_iff_ne.mpr h9
   have HH9:=Lib.hid h9
   clear h9
   go_wp2_with ((with_reducible refine gate_store (t:=31) (p:=4) rfl ?_);refine store_box rfl rfl rfl (g:=w.heap.size + 1) (j:=0) (cs := #[.int .i64 0, .int .i64 0, .int .i64 0, .int .i64 0, .int .i64 0, .int .i64 0, .bool false, .int .u32 0, .bool false, .int .i64 0, .slice none 0 0]) (cs' := #[.int .i64 AF, .int .i64 SZ, .int .i64 T.run, .int .i64 T.level, .int .i64 T.crc, .int .i64 T.acc, .bool T.ext, .int .u32 T.id, .bool T.rtr, .int .i64 T.dlc,(.slice A5 T.data.length c5)]) (T:=31) (u := .agg #[.int .i64 AF, .int .i64 SZ, .int .i64 T.run, .int .i64 T.level, .int .i64 T.crc, .int .i64 T.acc, .bool T.ext, .int .u32 T.id, .bool T.rtr, .int .i64 T.dlc,(.slice A5 T.data.length c5)]) (seg := [.int .i64 AF, .int .i64 SZ, .int .i64 T.run, .int .i64 T.level, .int .i64 T.crc, .int .i64 T.acc, .bool T.ext, .int .u32 T.id, .bool T.rtr, .int .i64 T.dlc,(.slice A5 T.data.length c5)]) rfl rfl HW12.out.res rfl (by kernel_rfl) rfl rfl rfl ?_;intro wz hx hT;have HX:=Lib.hid hx;have HTZ:=Lib.hid hT;have HBz:=Lib.hid (hT.below HW12.out.below HW12.out.below.size (fun k hk => by omega));clear hx hT)
   refine bodyPost_ret (results_ct rfl _ _ (w.heap.size + 1) 31 #[.int .i64 AF, .int .i64 SZ, .int .i64 T.run, .int .i64 T.level, .int .i64 T.crc, .int .i64 T.acc, .bool T.ext, .int .u32 T.id, .bool T.rtr, .int .i64 T.dlc,(.slice A5 T.data.length c5)] (0,0) _ rfl HX.out Tryd.underlying31 rfl (by kernel_rfl)) rfl ?_
   rw [HSTEP.out,show enterS T AF = { T with field:=AF,left:=SZ } by unfold enterS;rw [if_neg HH9.out,HSZ.out]]
   exact ⟨_,rfl,Kd.R_mono (HTZ.out.R HW12.out.row (fun k hk e => by omega)) (fun _ _ => trivial),HBz.out⟩
 ·have bL : (T.left - 1 == 0) = false:=beq_eq_false_iff_ne.mpr hL
  have HL0:=Lib.hid hL
  have HSTEP : Hid (stepS T = { T with left:=T.left - 1 }):=Lib.hid (by unfold stepS;rw [if_neg hL])
  clear hL
  go_wp2_with ((with_reducible refine gate_store (t:=31) (p:=4) rfl ?_);refine store_box rfl rfl rfl (g:=w.heap.size + 1) (j:=0) (cs := #[.int .i64 0, .int .i64 0, .int .i64 0, .int .i64 0, .int .i64 0, .int .i64 0, .bool false, .int .u32 0, .bool false, .int .i64 0, .slice none 0 0]) (cs' := #[.int .i64 T.field, .int .i64 (T.left - 1), .int .i64 T.run, .int .i64 T.level, .int .i64 T.crc, .int .i64 T.acc, .bool T.ext, .int .u32 T.id, .bool T.rtr, .int .i64 T.dlc,(.slice A5 T.data.length c5)]) (T:=31) (u := .agg #[.int .i64 T.field, .int .i64 (T.left - 1), .int .i64 T.run, .int .i64 T.level, .int .i64 T.crc, .int .i64 T.acc, .bool T.ext, .int .u32 T.id, .bool T.rtr, .int .i64 T.dlc,(.slice A5 T.data.length c5)]) (seg := [.int .i64 T.field, .int .i64 (T.left - 1), .int .i64 T.run, .int .i64 T.level, .int .i64 T.crc, .int .i64 T.acc, .bool T.ext, .int .u32 T.id, .bool T.rtr, .int .i64 T.dlc,(.slice A5 T.data.length c5)]) rfl rfl HW8.out.res rfl (by kernel_rfl) rfl rfl rfl ?_;intro wz hx hT;have HX:=Lib.hid hx;have HTZ:=Lib.hid hT;have HBz:=Lib.hid (hT.below HW8.out.below HW8.out.below.size (fun k hk => by omega));clear hx hT)
  refine bodyPost_ret (results_ct rfl _ _ (w.heap.size + 1) 31 #[.int .i64 T.field, .int .i64 (T.left - 1), .int .i64 T.run, .int .i64 T.level, .int .i64 T.crc, .int .i64 T.acc, .bool T.ext, .int .u32 T.id, .bool T.rtr, .int .i64 T.dlc,(.slice A5 T.data.length c5)] (0,0) _ rfl HX.out Tryd.underlying31 rfl (by kernel_rfl)) rfl ?_
  rw [HSTEP.out]
  exact ⟨_,rfl,Kd.R_mono (HTZ.out.R HW8.out.row (fun k hk e => by omega)) (fun _ _ => trivial),HBz.out⟩
end Go.Proofs.YtdoclpgciadjaaaDoor.P

namespace Go.Proofs.YtdoclpgciadjaaaDoor.P
open Go.RowKit Go.Proofs.YtdoclpgciadjaaaDoorW.PrintWords Go.Proofs.YtdoclpgciadjaaaDoorW.PrintLast Go.Proofs.YtdoclpgciadjaaaDoorW.PrintMore
set_option linter.unusedVariables false
set_option linter.unusedSimpArgs false
theorem scan_bad_0 (w : World) (s : SS) (A : Option Addr) (c : Nat) (hr : Kd.C (Kd.int .u8) w A s.data.length s.data) (hc : s.data.length ≤ c) (hG : LaidRows w) (hs : Sound s) (h5 : s.run ≠ 5) (hv0 : verdictV s 0 ≠ 0) (hv1 : verdictV s 0 ≠ 1) :
  Calls Tryd.prog 8 #[.agg #[.int .i64 s.field, .int .i64 s.left, .int .i64 s.run, .int .i64 s.level, .int .i64 s.crc, .int .i64 s.acc, .bool s.ext, .int .u32 s.id, .bool s.rtr, .int .i64 s.dlc,(.slice A s.data.length c)], .int .i64 0] w fun e w' => e = .returned (.tuple #[.agg #[.int .i64 0, .int .i64 0, .int .i64 0, .int .i64 0, .int .i64 0, .int .i64 0, .bool false, .int .u32 0, .bool false, .int .i64 0, .slice none 0 0], .int .i64 (verdictV s 0)]) ∧ Below w.heap.size w w':=by
 have HR:=Lib.hid hr
 have HC:=Lib.hid hc
 have HG:=Lib.hid hG
 clear hr hc hG
 have HS:=Lib.hid hs
 have HCP : Hid (impl_copyFrame.f s.ext s.id s.rtr s.dlc s.data = some (s.ext,s.id,s.rtr,s.dlc,s.data)):=Lib.hid (copy_eq (by have:=hs.dl;omega))
 have HSB : Hid (impl_Scan_sound.f 10 s.field s.left s.run s.level s.crc s.acc s.ext s.id s.rtr s.dlc s.data = some true):=Lib.hid (by rw [soundI,soundB_true hs])
 have HVB : Hid (impl_Scan_verdict.f 10 s.field s.left s.run s.level s.crc s.acc s.ext s.id s.rtr s.dlc s.data 0 = some (verdictV s 0)):=Lib.hid (verdictI s 0)
 generalize verdictV s 0 = V at *
 have b5 : (s.run == 5) = false:=beq_eq_false_iff_ne.mpr h5
 have bv0 : (V != 0) = true:=bne_iff_ne.mpr hv0
 have bv1 : (V != 1) = true:=bne_iff_ne.mpr hv1
 clear hs h5 hv0 hv1
 go_enter Tryd.func8,Tryd.ntmps8
 go_wp2_with (fail)
 (refine (impl_Scan_sound.calls 10 s.field s.left s.run s.level s.crc s.acc s.ext s.id s.rtr s.dlc A c s.data true _ (Kd.C_alloc (Kd.C_alloc HR.out _) _) HC.out HSB.out (HG.out.alloc _ |>.alloc _)).mono ?_;rintro e w1 ⟨rfl,hb1⟩;have HW1:=Lib.hid ((SbIn.start w s (.slice A s.data.length c)).step hb1);clear hb1)
 have hx6:=cS6 HW1.out.box
 have hx7:=cS7 HW1.out.box
 have hx8:=cS8 HW1.out.box
 have hx9:=cS9 HW1.out.box
 have hx10:=cS10 HW1.out.box
 go_wp2_with (fail)
 clear hx6 hx7 hx8 hx9 hx10
 (refine (impl_copyFrame.calls s.ext s.id s.rtr s.dlc A c s.data s.ext s.id s.rtr s.dlc s.data _ (Kd.C_below HR.out HW1.out.below) HC.out HCP.out).mono ?_;rintro e w2 ⟨v2,rfl,hr2,hb2⟩;obtain ⟨A2,c2,rfl⟩:=Kd.R_slice hr2;have HR2:=Lib.hid hr2;have HB2:=Lib.hid hb2;have HW2:=Lib.hid (HW1.out.step hb2);clear hr2 hb2)
 go_wp2_with ((with_reducible refine gate_store (t:=29) (p:=22) rfl ?_);refine store_box rfl rfl rfl (g:=w.heap.size) (j:=6) (cs := #[.int .i64 s.field, .int .i64 s.left, .int .i64 s.run, .int .i64 s.level, .int .i64 s.crc, .int .i64 s.acc, .bool s.ext, .int .u32 s.id, .bool s.rtr, .int .i64 s.dlc,(.slice A s.data.length c)]) (cs' := #[.int .i64 s.field, .int .i64 s.left, .int .i64 s.run, .int .i64 s.level, .int .i64 s.crc, .int .i64 s.acc, .bool s.ext, .int .u32 s.id, .bool s.rtr, .int .i64 s.dlc,(.slice A2 s.data.length c2)]) (T:=31) (u := .agg #[.bool s.ext, .int .u32 s.id, .bool s.rtr, .int .i64 s.dlc,(.slice A2 s.data.length c2)]) (seg := [.bool s.ext, .int .u32 s.id, .bool s.rtr, .int .i64 s.dlc,(.slice A2 s.data.length c2)]) rfl rfl HW2.out.box rfl (by kernel_rfl) rfl rfl rfl ?_;intro w3 hx hT;have HW3:=Lib.hid (SbO.ofCopy HW1.out HB2.out HR2.out hx hT);clear hx hT;obtain ⟨hc0,hc1,hc2,hc3,hc4,hc5,hc6,hc7,hc8,hc9,hc10⟩:=cSall HW3.out.box;obtain ⟨hf0,hf1,hf2,hf3,hf4,hf5,hf6,hf7,hf8,hf9,hf10⟩:=fSall HW3.out.box)
 (refine (impl_Scan_verdict.calls 10 s.field s.left s.run s.level s.crc s.acc s.ext s.id s.rtr s.dlc A2 c2 s.data 0 V _ (Kd.R_reads' HW3.out.row).2.2 (Kd.R_reads' HW3.out.row).2.1 HVB.out).mono ?_;rintro e w4 ⟨rfl,hb4⟩;have HW4:=Lib.hid (HW3.out.step hb4);clear hb4;clear hc0 hc1 hc2 hc3 hc4 hc5 hc6 hc7 hc8 hc9 hc10 hf0 hf1 hf2 hf3 hf4 hf5 hf6 hf7 hf8 hf9 hf10;obtain ⟨hc0,hc1,hc2,hc3,hc4,hc5,hc6,hc7,hc8,hc9,hc10⟩:=cSall HW4.out.box;obtain ⟨hf0,hf1,hf2,hf3,hf4,hf5,hf6,hf7,hf8,hf9,hf10⟩:=fSall HW4.out.box)
 go_wp2_with ((with_reducible refine gate_store (t:=31) (p:=4) rfl ?_);refine store_box rfl rfl rfl (g:=w.heap.size + 1) (j:=0) (cs := #[.int .i64 0, .int .i64 0, .int .i64 0, .int .i64 0, .int .i64 0, .int .i64 0, .bool false, .int .u32 0, .bool false, .int .i64 0, .slice none 0 0]) (cs' := #[.int .i64 0, .int .i64 0, .int .i64 0, .int .i64 0, .int .i64 0, .int .i64 0, .bool false, .int .u32 0, .bool false, .int .i64 0, .slice none 0 0]) (T:=31) (u := .agg #[.int .i64 0, .int .i64 0, .int .i64 0, .int .i64 0, .int .i64 0, .int .i64 0, .bool false, .int .u32 0, .bool false, .int .i64 0, .slice none 0 0]) (seg := [.int .i64 0, .int .i64 0, .int .i64 0, .int .i64 0, .int .i64 0, .int .i64 0, .bool false, .int .u32 0, .bool false, .int .i64 0, .slice none 0 0]) rfl rfl HW4.out.res rfl (by kernel_rfl) rfl rfl rfl ?_;intro wz hx hT;have HX:=Lib.hid hx;have HTZ:=Lib.hid hT;have HBz:=Lib.hid (hT.below HW4.out.below HW4.out.below.size (fun k hk => by omega));clear hx hT)
 refine bodyPost_ret (results_ct rfl _ _ (w.heap.size + 1) 31 #[.int .i64 0, .int .i64 0, .int .i64 0, .int .i64 0, .int .i64 0, .int .i64 0, .bool false, .int .u32 0, .bool false, .int .i64 0, .slice none 0 0] (0,0) _ rfl HX.out Tryd.underlying31 rfl (by kernel_rfl)) rfl ?_
 exact ⟨rfl,HBz.out⟩
theorem scan_bad_1 (w : World) (s : SS) (A : Option Addr) (c : Nat) (hr : Kd.C (Kd.int .u8) w A s.data.length s.data) (hc : s.data.length ≤ c) (hG : LaidRows w) (hs : Sound s) (h5 : s.run ≠ 5) (hv0 : verdictV s 1 ≠ 0) (hv1 : verdictV s 1 ≠ 1) :
  Calls Tryd.prog 8 #[.agg #[.int .i64 s.field, .int .i64 s.left, .int .i64 s.run, .int .i64 s.level, .int .i64 s.crc, .int .i64 s.acc, .bool s.ext, .int .u32 s.id, .bool s.rtr, .int .i64 s.dlc,(.slice A s.data.length c)], .int .i64 1] w fun e w' => e = .returned (.tuple #[.agg #[.int .i64 0, .int .i64 0, .int .i64 0, .int .i64 0, .int .i64 0, .int .i64 0, .bool false, .int .u32 0, .bool false, .int .i64 0, .slice none 0 0], .int .i64 (verdictV s 1)]) ∧ Below w.heap.size w w':=by
 have HR:=Lib.hid hr
 have HC:=Lib.hid hc
 have HG:=Lib.hid hG
 clear hr hc hG
 have HS:=Lib.hid hs
 have HCP : Hid (impl_copyFrame.f s.ext s.id s.rtr s.dlc s.data = some (s.ext,s.id,s.rtr,s.dlc,s.data)):=Lib.hid (copy_eq (by have:=hs.dl;omega))
 have HSB : Hid (impl_Scan_sound.f 10 s.field s.left s.run s.level s.crc s.acc s.ext s.id s.rtr s.dlc s.data = some true):=Lib.hid (by rw [soundI,soundB_true hs])
 have HVB : Hid (impl_Scan_verdict.f 10 s.field s.left s.run s.level s.crc s.acc s.ext s.id s.rtr s.dlc s.data 1 = some (verdictV s 1)):=Lib.hid (verdictI s 1)
 generalize verdictV s 1 = V at *
 have b5 : (s.run == 5) = false:=beq_eq_false_iff_ne.mpr h5
 have bv0 : (V != 0) = true:=bne_iff_ne.mpr hv0
 have bv1 : (V != 1) = true:=bne_iff_ne.mpr hv1
 clear hs h5 hv0 hv1
 go_enter Tryd.func8,Tryd.ntmps8
 go_wp2_with (fail)
 (refine (impl_Scan_sound.calls 10 s.field s.left s.run s.level s.crc s.acc s.ext s.id s.rtr s.dlc A c s.data true _ (Kd.C_alloc (Kd.C_alloc HR.out _) _) HC.out HSB.out (HG.out.alloc _ |>.alloc _)).mono ?_;rintro e w1 ⟨rfl,hb1⟩;have HW1:=Lib.hid ((SbIn.start w s (.slice A s.data.length c)).step hb1);clear hb1)
 have hx6:=cS6 HW1.out.box
 have hx7:=cS7 HW1.out.box
 have hx8:=cS8 HW1.out.box
 have hx9:=cS9 HW1.out.box
 have hx10:=cS10 HW1.out.box
 go_wp2_with (fail)
 clear hx6 hx7 hx8 hx9 hx10
 (refine (impl_copyFrame.calls s.ext s.id s.rtr s.dlc A c s.data s.ext s.id s.rtr s.dlc s.data _ (Kd.C_below HR.out HW1.out.below) HC.out HCP.out).mono ?_;rintro e w2 ⟨v2,rfl,hr2,hb2⟩;obtain ⟨A2,c2,rfl⟩:=Kd.R_slice hr2;have HR2:=Lib.hid hr2;have HB2:=Lib.hid hb2;have HW2:=Lib.hid (HW1.out.step hb2);clear hr2 hb2)
 go_wp2_with ((with_reducible refine gate_store (t:=29) (p:=22) rfl ?_);refine store_box rfl rfl rfl (g:=w.heap.size) (j:=6) (cs := #[.int .i64 s.field, .int .i64 s.left, .int .i64 s.run, .int .i64 s.level, .int .i64 s.crc, .int .i64 s.acc, .bool s.ext, .int .u32 s.id, .bool s.rtr, .int .i64 s.dlc,(.slice A s.data.length c)]) (cs' := #[.int .i64 s.field, .int .i64 s.left, .int .i64 s.run, .int .i64 s.level, .int .i64 s.crc, .int .i64 s.acc, .bool s.ext, .int .u32 s.id, .bool s.rtr, .int .i64 s.dlc,(.slice A2 s.data.length c2)]) (T:=31) (u := .agg #[.bool s.ext, .int .u32 s.id, .bool s.rtr, .int .i64 s.dlc,(.slice A2 s.data.length c2)]) (seg := [.bool s.ext, .int .u32 s.id, .bool s.rtr, .int .i64 s.dlc,(.slice A2 s.data.length c2)]) rfl rfl HW2.out.box rfl (by kernel_rfl) rfl rfl rfl ?_;intro w3 hx hT;have HW3:=Lib.hid (SbO.ofCopy HW1.out HB2.out HR2.out hx hT);clear hx hT;obtain ⟨hc0,hc1,hc2,hc3,hc4,hc5,hc6,hc7,hc8,hc9,hc10⟩:=cSall HW3.out.box;obtain ⟨hf0,hf1,hf2,hf3,hf4,hf5,hf6,hf7,hf8,hf9,hf10⟩:=fSall HW3.out.box)
 (refine (impl_Scan_verdict.calls 10 s.field s.left s.run s.level s.crc s.acc s.ext s.id s.rtr s.dlc A2 c2 s.data 1 V _ (Kd.R_reads' HW3.out.row).2.2 (Kd.R_reads' HW3.out.row).2.1 HVB.out).mono ?_;rintro e w4 ⟨rfl,hb4⟩;have HW4:=Lib.hid (HW3.out.step hb4);clear hb4;clear hc0 hc1 hc2 hc3 hc4 hc5 hc6 hc7 hc8 hc9 hc10 hf0 hf1 hf2 hf3 hf4 hf5 hf6 hf7 hf8 hf9 hf10;obtain ⟨hc0,hc1,hc2,hc3,hc4,hc5,hc6,hc7,hc8,hc9,hc10⟩:=cSall HW4.out.box;obtain ⟨hf0,hf1,hf2,hf3,hf4,hf5,hf6,hf7,hf8,hf9,hf10⟩:=fSall HW4.out.box)
 go_wp2_with ((with_reducible refine gate_store (t:=31) (p:=4) rfl ?_);refine store_box rfl rfl rfl (g:=w.heap.size + 1) (j:=0) (cs := #[.int .i64 0, .int .i64 0, .int .i64 0, .int .i64 0, .int .i64 0, .int .i64 0, .bool false, .int .u32 0, .bool false, .int .i64 0, .slice none 0 0]) (cs' := #[.int .i64 0, .int .i64 0, .int .i64 0, .int .i64 0, .int .i64 0, .int .i64 0, .bool false, .int .u32 0, .bool false, .int .i64 0, .slice none 0 0]) (T:=31) (u := .agg #[.int .i64 0, .int .i64 0, .int .i64 0, .int .i64 0, .int .i64 0, .int .i64 0, .bool false, .int .u32 0, .bool false, .int .i64 0, .slice none 0 0]) (seg := [.int .i64 0, .int .i64 0, .int .i64 0, .int .i64 0, .int .i64 0, .int .i64 0, .bool false, .int .u32 0, .bool false, .int .i64 0, .slice none 0 0]) rfl rfl HW4.out.res rfl (by kernel_rfl) rfl rfl rfl ?_;intro wz hx hT;have HX:=Lib.hid hx;have HTZ:=Lib.hid hT;have HBz:=Lib.hid (hT.below HW4.out.below HW4.out.below.size (fun k hk => by omega));clear hx hT)
 refine bodyPost_ret (results_ct rfl _ _ (w.heap.size + 1) 31 #[.int .i64 0, .int .i64 0, .int .i64 0, .int .i64 0, .int .i64 0, .int .i64 0, .bool false, .int .u32 0, .bool false, .int .i64 0, .slice none 0 0] (0,0) _ rfl HX.out Tryd.underlying31 rfl (by kernel_rfl)) rfl ?_
 exact ⟨rfl,HBz.out⟩
theorem scan_all (w : World) (s : SS) (A : Option Addr) (c : Nat) (b : Int) (hr : Kd.C (Kd.int .u8) w A s.data.length s.data) (hc : s.data.length ≤ c) (hG : LaidRows w) (hid : 0 ≤ s.id) (hby : ∀ x ∈ s.data,0 ≤ x ∧ x < 256) :
  Calls Tryd.prog 8 #[.agg #[.int .i64 s.field, .int .i64 s.left, .int .i64 s.run, .int .i64 s.level, .int .i64 s.crc, .int .i64 s.acc, .bool s.ext, .int .u32 s.id, .bool s.rtr, .int .i64 s.dlc,(.slice A s.data.length c)], .int .i64 b] w fun e w' => ∃ v : Value,e = .returned (.tuple #[.agg #[.int .i64 (scanV s b).1.field, .int .i64 (scanV s b).1.left, .int .i64 (scanV s b).1.run, .int .i64 (scanV s b).1.level, .int .i64 (scanV s b).1.crc, .int .i64 (scanV s b).1.acc, .bool (scanV s b).1.ext, .int .u32 (scanV s b).1.id, .bool (scanV s b).1.rtr, .int .i64 (scanV s b).1.dlc,v], .int .i64 (scanV s b).2]) ∧ Kd.R (Kd.int .u8) 5 w' w.heap.size (fun _ => True) v (scanV s b).1.data ∧ Below w.heap.size w w':=by
 by_cases hsb : Sound s ∧ (b = 0 ∨ b = 1)
 ·obtain ⟨hs,hb⟩:=hsb
  by_cases h5 : s.run = 5
  ·by_cases hl : b = s.level
   ·rw [show scanV s b = (zeroS,3) by unfold scanV;rw [if_pos ⟨hs,hb⟩,if_pos h5,if_pos hl]]
    refine (scan_stuff w s A c b hr hc hG hs hb h5 hl).mono ?_
    rintro e w' ⟨rfl,h⟩
    exact ⟨_,rfl,Kd.R_nil _ _ _ _ _,h⟩
   ·rw [show scanV s b = ({ s with run:=1,level:=b },0) by unfold scanV;rw [if_pos ⟨hs,hb⟩,if_pos h5,if_neg hl]]
    rcases hb with rfl | rfl
    ·exact scan_skip_0 w s A c hr hc hG hs h5 hl
    ·exact scan_skip_1 w s A c hr hc hG hs h5 hl
  ·by_cases hv01 : verdictV s b = 0 ∨ verdictV s b = 1
   ·rw [show scanV s b = (stepS (takeS (crcT (runS s b) b) b),verdictV s b) by unfold scanV;rw [if_pos ⟨hs,hb⟩,if_neg h5,if_pos hv01]]
    have hlim : s.field = 14 → s.left ≠ 1:=by
     intro h14 h1
     unfold verdictV at hv01
     rw [if_neg (by omega),if_neg (by omega),if_neg (by omega),if_neg (by omega)] at hv01
     by_cases b0 : b = 0
     ·rw [if_pos b0] at hv01;omega
     ·rw [if_neg b0,if_neg (by omega),if_pos h1] at hv01;omega
    have h14 : verdictV s b = 1 → 10 < s.field:=by
     intro h
     unfold verdictV at h
     by_cases c1 : (s.field = 1 ∧ b = 1) ∨ ((s.field = 11 ∨ s.field = 13) ∧ b = 0)
     ·rw [if_pos c1] at h;omega
     rw [if_neg c1] at h
     by_cases c2 : s.field = 13 ∧ s.acc ≠ s.crc
     ·rw [if_pos c2] at h;omega
     rw [if_neg c2] at h
     by_cases c3 : s.field ≠ 14
     ·rw [if_pos c3] at h;omega
     ·omega
    have hr0:=hs.r0
    have hq0:=hs.q
    rcases hv01 with hv | hv
    ·rw [hv]
     by_cases hq : 10 < s.field
     ·rcases hb with rfl | rfl
      ·exact scan_quiet_0_0 w s A c hr hc hG hs hid hby h5 hv hlim hq
      ·exact scan_quiet_1_0 w s A c hr hc hG hs hid hby h5 hv hlim hq
     have hq : s.field ≤ 10:=by omega
     by_cases hz : s.run = 0
     ·have hcr : s.field ≤ 9:=by have:=hq0.1 hz;omega
      rcases hb with rfl | rfl
      ·exact scan_first_crc_0_0 w s A c hr hc hG hs hid hby h5 hv hlim hq hz hcr
      ·exact scan_first_crc_1_0 w s A c hr hc hG hs hid hby h5 hv hlim hq hz hcr
     have hr1 : 0 < s.run:=by omega
     by_cases hcr : s.field ≤ 9
     ·rcases hb with rfl | rfl
      ·by_cases hlv : s.level = 0
       ·exact scan_same_crc_0_0 w s A c hr hc hG hs hid hby h5 hv hlim hq hr1 hlv hcr
       ·exact scan_other_crc_0_0 w s A c hr hc hG hs hid hby h5 hv hlim hq hr1 hlv hcr
      ·by_cases hlv : s.level = 1
       ·exact scan_same_crc_1_0 w s A c hr hc hG hs hid hby h5 hv hlim hq hr1 hlv hcr
       ·exact scan_other_crc_1_0 w s A c hr hc hG hs hid hby h5 hv hlim hq hr1 hlv hcr
     ·have hcr : s.field = 10:=by omega
      rcases hb with rfl | rfl
      ·by_cases hlv : s.level = 0
       ·exact scan_same_0_0 w s A c hr hc hG hs hid hby h5 hv hlim hq hr1 hlv hcr
       ·exact scan_other_0_0 w s A c hr hc hG hs hid hby h5 hv hlim hq hr1 hlv hcr
      ·by_cases hlv : s.level = 1
       ·exact scan_same_1_0 w s A c hr hc hG hs hid hby h5 hv hlim hq hr1 hlv hcr
       ·exact scan_other_1_0 w s A c hr hc hG hs hid hby h5 hv hlim hq hr1 hlv hcr
    ·have hq:=h14 hv
     rw [hv]
     rcases hb with rfl | rfl
     ·exact scan_quiet_0_1 w s A c hr hc hG hs hid hby h5 hv hlim hq
     ·exact scan_quiet_1_1 w s A c hr hc hG hs hid hby h5 hv hlim hq
   ·rw [show scanV s b = (zeroS,verdictV s b) by unfold scanV;rw [if_pos ⟨hs,hb⟩,if_neg h5,if_neg hv01]]
    rcases hb with rfl | rfl
    ·refine (scan_bad_0 w s A c hr hc hG hs h5 (fun h => hv01 (.inl h)) (fun h => hv01 (.inr h))).mono ?_
     rintro e w' ⟨rfl,h⟩
     exact ⟨_,rfl,Kd.R_nil _ _ _ _ _,h⟩
    ·refine (scan_bad_1 w s A c hr hc hG hs h5 (fun h => hv01 (.inl h)) (fun h => hv01 (.inr h))).mono ?_
     rintro e w' ⟨rfl,h⟩
     exact ⟨_,rfl,Kd.R_nil _ _ _ _ _,h⟩
 ·rw [show scanV s b = (zeroS,8) by unfold scanV;rw [if_neg hsb]]
  refine (scan_no w s A c b hr hc hG ?_).mono ?_
  ·by_cases hs : Sound s
   ·right;refine ⟨fun h => hsb ⟨hs, .inl h⟩,fun h => hsb ⟨hs, .inr h⟩⟩
   ·left;exact soundB_false hs
  ·rintro e w' ⟨rfl,h⟩
   exact ⟨_,rfl,Kd.R_nil _ _ _ _ _,h⟩
end Go.Proofs.YtdoclpgciadjaaaDoor.P

namespace Go.Proofs.YtdoclpgciadjaaaDoor.P
open Go Go.RowKit Go.Proofs.YtdoclpgciadjaaaDoorW.PrintWords
set_option linter.unusedVariables false
def cellsK (s : SS) (v : Value) : List Value := [.int .i64 s.field, .int .i64 s.left, .int .i64 s.run, .int .i64 s.level, .int .i64 s.crc, .int .i64 s.acc, .bool s.ext, .int .u32 s.id, .bool s.rtr, .int .i64 s.dlc,v]
def KS (W : World) (s : SS) (C : List Value) : Prop := ∃ A c,C = cellsK s (.slice A s.data.length c) ∧ Kd.C (Kd.int .u8) W A s.data.length s.data ∧ s.data.length ≤ c
def MS (W : World) (base : Nat) (ok : Nat → Prop) (s : SS) (C : List Value) : Prop := ∃ v,C = cellsK s v ∧ Kd.R (Kd.int .u8) 5 W base ok v s.data
theorem KS.below {W W' : World} {s : SS} {C : List Value} (h : KS W s C) (hb : Below W.heap.size W W') : KS W' s C:=by
 obtain ⟨A,c,e,hr,hc⟩:=h
 exact ⟨A,c,e,Kd.C_below hr hb,hc⟩
theorem MS.toK {W : World} {base : Nat} {ok : Nat → Prop} {s : SS} {C : List Value} (h : MS W base ok s C) : KS W s C:=by
 obtain ⟨v,e,hr⟩:=h
 obtain ⟨A,c,rfl⟩:=Kd.R_slice hr
 have h2:=Kd.R_reads' hr
 exact ⟨A,c,e,h2.2.2,h2.2.1⟩
theorem KS.len {W : World} {s : SS} {C : List Value} (h : KS W s C) : C.length = 11:=by
 obtain ⟨A,c,rfl,_⟩:=h
 rfl
theorem KS.one {W : World} {s : SS} {C : List Value} (h : KS W s C) : ∀ u ∈ C,u.oneCell' = true:=by
 obtain ⟨A,c,rfl,_⟩:=h
 exact List.all_eq_true.1 (by kernel_rfl : (cellsK s (.slice A s.data.length c)).all (·.oneCell') = true)
theorem KS.info {W : World} {s : SS} {C : List Value} (h : KS W s C) : (Tryd.prog.info? 31).map (·.size) = some C.length:=by rw [h.len];kernel_rfl
theorem KS.infoL {W : World} {s : SS} {C : List Value} (h : KS W s C) : (Tryd.prog.info? 27).map (·.size) = some C.length:=by rw [h.len];kernel_rfl
structure Ax (w W : World) (g : Nat) (s : SS) (C : List Value) : Prop where
 blk : W.heap[g]? = some (.cells ⟨C⟩ 27 (0,0))
 ge : w.heap.size ≤ g
 key : KS w s C
 bel : Below w.heap.size w W
structure Bx (w W : World) (g n m : Nat) (s : SS) (C : List Value) : Prop where
 blk : W.heap[g]? = some (.cells ⟨C⟩ 31 (0,0))
 row : MS W w.heap.size (fun k => n ≤ k ∧ k < m) s C
 lo : w.heap.size ≤ n
 mg : n ≤ m ∧ m ≤ g
theorem Ax.K {w W : World} {g : Nat} {s : SS} {C : List Value} (h : Ax w W g s C) : KS W s C:=h.key.below h.bel
theorem Bx.K {w W : World} {g n m : Nat} {s : SS} {C : List Value} (h : Bx w W g n m s C) : KS W s C:=h.row.toK
theorem Ax.new {w W W2 : World} {g : Nat} {s : SS} {C : List Value} (hk : KS w s C) (hB : Below w.heap.size w W) (hg : g = W.heap.size) (hb : Below W.heap.size W W2) (hx : W2.heap[g]? = some (.cells ⟨C⟩ 27 (0,0))) : Ax w W2 g s C :=
 ⟨hx,by rw [hg];exact hB.size,hk,hB.trans (hb.mono hB.size)⟩
theorem Ax.step {w W W2 : World} {g : Nat} {s : SS} {C : List Value} (h : Ax w W g s C) (hb : Below W.heap.size W W2) : Ax w W2 g s C :=
 ⟨blk_below h.blk hb,h.ge,h.key,h.bel.trans (hb.mono h.bel.size)⟩
theorem Bx.step {w W W2 : World} {g n m : Nat} {s : SS} {C : List Value} (h : Bx w W g n m s C) (hb : Below W.heap.size W W2) : Bx w W2 g n m s C:=by
 obtain ⟨v,e,hr⟩:=h.row
 exact ⟨blk_below h.blk hb,⟨v,e,Kd.R_below hr hb⟩,h.lo,h.mg⟩
theorem Bx.kept {w W W2 : World} {g n m : Nat} {s : SS} {C : List Value} {S : Nat → Prop} (h : Bx w W g n m s C) (hk : Kept W W2 S) (hn : ∀ k,n ≤ k ∧ k < m → ¬ S k) (hg : ¬ S g) : Bx w W2 g n m s C:=by
 obtain ⟨v,e,hr⟩:=h.row
 exact ⟨blk_kept h.blk hk hg,⟨v,e,Kd.R_kept hr hk hn⟩,h.lo,h.mg⟩
theorem Ax.over {w W1 W2 W3 : World} {g g' : Nat} {s : SS} {C : List Value} (h : Ax w W1 g s C) (hb : Below W1.heap.size W1 W2) (hg : g' = W1.heap.size) (hT : Tch W2 W3 (fun k => k = g')) : Ax w W3 g s C:=by
 have h2:=h.step hb
 have hl:=blk_lt h.blk
 have hs:=h.bel.size
 exact ⟨hT.blk h2.blk (by intro e;omega),h.ge,h.key,hT.below h2.bel h2.bel.size (fun k hk => by omega)⟩
theorem Bx.over {w W1 W2 W3 : World} {g g' n m : Nat} {s : SS} {C : List Value} (h : Bx w W1 g n m s C) (hb : Below W1.heap.size W1 W2) (hg : g' = W1.heap.size) (hT : Tch W2 W3 (fun k => k = g')) : Bx w W3 g n m s C:=by
 have hl:=blk_lt h.blk
 have hm:=h.mg
 exact (h.step hb).kept hT.kept (fun k hk => by omega) (by omega)
theorem Bx.new {w W0 W1 W2 W3 : World} {g' : Nat} {s : SS} {C : List Value} {cs : Array Value} (hs : w.heap.size ≤ W0.heap.size) (h01 : W0.heap.size ≤ W1.heap.size) (hm : MS W1 W0.heap.size (fun _ => True) s C) (hb : Below W1.heap.size W1 W2) (hg : g' = W1.heap.size) (hx : W3.heap[g']? = some (.cells ⟨C⟩ 31 (0,0))) (hT : Tch W2 W3 (fun k => k = g')) : Bx w W3 g' W0.heap.size W1.heap.size s C:=by
 obtain ⟨v,e,hr⟩:=hm
 have h1 : Kd.R (Kd.int .u8) 5 W1 w.heap.size (fun k => W0.heap.size ≤ k ∧ k < W1.heap.size) v s.data:=Kd.R_mono (Kd.R_lower (Kd.R_bound hr) hs) (fun k hk => ⟨hk.2.1,hk.2.2.1⟩)
 have h2:=Kd.R_below h1 hb
 exact ⟨hx,⟨v,e,Kd.R_kept h2 hT.kept (fun k hk => by omega)⟩,hs,h01,by omega⟩
theorem szScan_v (s : SS) (h : s.data.length ≤ maxLen) (W : World) (C : List Value) (hk : KS W s C) : Calls Tryd.prog 5 #[.agg ⟨C⟩, .int .i64 1048576] W fun e w' => e = .returned (.int .i64 (if (1048576 : Int) < s.data.length then (-1 : Int) else (1048576 : Int) - s.data.length)) ∧ Below W.heap.size W w':=by
 obtain ⟨A,c,rfl,hr,hc⟩:=hk
 exact laws_szScan.calls _ _ _ _ _ _ _ _ _ _ A c s.data _ _ W hr hc (szScan_eq s h)
theorem toScan_v (s : SS) (h : s.data.length ≤ 10000000) {W : World} {C : List Value} (hk : KS W s C) : Calls Tryd.prog 7 #[.agg ⟨C⟩] W fun e w' => ∃ C1,e = .returned (.agg ⟨C1⟩) ∧ MS w' W.heap.size (fun _ => True) s C1 ∧ Below W.heap.size W w':=by
 obtain ⟨A,c,rfl,hr,hc⟩:=hk
 obtain ⟨k,hk⟩:=(toScan_ev s h).rounds
 refine (laws_toScan.calls k _ _ _ _ _ _ _ _ _ _ A c s.data _ _ _ _ _ _ _ _ _ _ _ W hr hc hk).mono ?_
 rintro e w' ⟨v,rfl,h1,h2⟩
 exact ⟨cellsK s v,rfl,⟨v,rfl,h1⟩,h2⟩
theorem specScan_v (s : SS) (b : Int) (h0 : 0 ≤ s.id) (hby : bytesOk s.data = true) (W : World) (C : List Value) (hk : KS W s C) : Calls Tryd.prog 6 #[.agg ⟨C⟩, .int .i64 b] W fun e w' => ∃ C1,e = .returned (.tuple #[.agg ⟨C1⟩, .int .i64 (scanV s b).2]) ∧ MS w' W.heap.size (fun _ => True) (scanV s b).1 C1 ∧ Below W.heap.size W w':=by
 obtain ⟨A,c,rfl,hr,hc⟩:=hk
 refine (spec_all W s A c hr hc b h0 (bytesOk_mem hby)).mono ?_
 rintro e w' ⟨v,rfl,h1,h2⟩
 exact ⟨cellsK (scanV s b).1 v,rfl,⟨v,rfl,h1⟩,h2⟩
theorem implScan_v (s : SS) (b : Int) (h0 : 0 ≤ s.id) (hby : bytesOk s.data = true) (W : World) (hG : LaidRows W) (C : List Value) (hk : KS W s C) : Calls Tryd.prog 8 #[.agg ⟨C⟩, .int .i64 b] W fun e w' => ∃ C1,e = .returned (.tuple #[.agg ⟨C1⟩, .int .i64 (scanV s b).2]) ∧ MS w' W.heap.size (fun _ => True) (scanV s b).1 C1 ∧ Below W.heap.size W w':=by
 obtain ⟨A,c,rfl,hr,hc⟩:=hk
 refine (scan_all W s A c b hr hc hG h0 (bytesOk_mem hby)).mono ?_
 rintro e w' ⟨v,rfl,h1,h2⟩
 exact ⟨cellsK (scanV s b).1 v,rfl,⟨v,rfl,h1⟩,h2⟩
theorem eqScan_v (s : SS) (h : s.data.length ≤ 10000000) {W : World} {C C' : List Value} (hk : KS W s C) (hk' : KS W s C') : Calls Tryd.prog 9 #[.agg ⟨C⟩, .agg ⟨C'⟩] W fun e w' => e = .returned (.bool true) ∧ Below W.heap.size W w':=by
 obtain ⟨A,c,rfl,hr,hc⟩:=hk
 obtain ⟨A',c',rfl,hr',hc'⟩:=hk'
 obtain ⟨k,hk⟩:=(eqScan_ev s h).rounds
 exact laws_eqScan.calls k _ _ _ _ _ _ _ _ _ _ A c s.data _ _ _ _ _ _ _ _ _ _ A' c' s.data _ W hr hc hr' hc' hk
theorem markScan_v (s : SS) (h : s.data.length ≤ 10000000) {w W : World} {g n m : Nat} {C : List Value} (hB : Below w.heap.size w W) (hx : Bx w W g n m s C) : Calls Tryd.prog 10 #[.agg ⟨C⟩, .int .i64 1] W fun e w' => e = .returned (.int .i64 (1 + (s.data.length : Int))) ∧ KS w' { s with data:=marks 1 s.data.length } C ∧ Below w.heap.size w w' ∧ Kept W w' (fun k => n ≤ k ∧ k < m):=by
 obtain ⟨v,rfl,hr⟩:=hx.row
 obtain ⟨k,hk⟩:=(markScan_ev s h).rounds
 refine (laws_markScan.calls k _ _ _ _ _ _ _ _ _ _ (fun k => n ≤ k ∧ k < m) v s.data _ _ _ w W hB hr hk).mono ?_
 rintro e w' ⟨rfl,h1,h2,h3⟩
 exact ⟨rfl,MS.toK (base:=w.heap.size) (ok:=fun k_ => (n ≤ k_ ∧ k_ < m) ∨ W.heap.size ≤ k_) ⟨v,rfl,h1⟩,h2,h3⟩
theorem heldScan_v (s : SS) (n : Nat) (h : n ≤ 10000000) {W : World} {C : List Value} (hk : KS W { s with data:=marks 1 n } C) : Calls Tryd.prog 11 #[.agg ⟨C⟩, .int .i64 1] W fun e w' => e = .returned (.int .i64 (1 + (n : Int))) ∧ Below W.heap.size W w':=by
 obtain ⟨A,c,rfl,hr,hc⟩:=hk
 obtain ⟨k,hk⟩:=(heldScan_ev s n h).rounds
 exact laws_heldScan.calls k _ _ _ _ _ _ _ _ _ _ A c (marks 1 n) _ _ W hr hc hk
theorem load_allw {P : Program} {ops : Array Oper} {rest : List Oper} {o : Oper} {a : Act} {Q : Exit → Act → World → Prop} {W : World} (hw : Region.wanted o (yielded ops a.tmps) = true) {t : TypeId} {p : Tmp} (ho : o.op = .load t (.tmp p)) {g : Nat} {C : List Value} {T : TypeId} {fs : Array Field}
  (hp : a.eval (.tmp p) = .pointer (some ⟨g,0,none⟩)) (hb : W.heap[g]? = some (.cells ⟨C⟩ T (0,0))) (hu : P.underlying t = some (.struct fs)) (ht : (P.info? t).map (·.size) = some C.length)
  (h : wpList P ops Q rest (a.put o.dst (.agg ⟨C⟩)) W) : wpList P ops Q (o :: rest) a W:=by
 unfold wpList
 rw [if_pos hw]
 exact Or.inl (wp_load_mid t (.tmp p) ho g 0 hp C _ (range_all hb) hu rfl ht h)
end Go.Proofs.YtdoclpgciadjaaaDoor.P

namespace Go.Proofs.YtdoclpgciadjaaaDoor.Pure
open Go Go.RowKit Go.Proofs.YtdoclpgciadjaaaDoor.P Go.Proofs.YtdoclpgciadjaaaDoorW.PrintWords
set_option linter.unusedVariables false
set_option maxRecDepth 100000 in
set_option maxHeartbeats 4000000 in
theorem FnExactScanBit_walk (s : SS) (b : Int) (hl : s.data.length ≤ maxLen) (h0 : 0 ≤ s.id) (hby : bytesOk s.data = true) (w : World) (C0 : List Value) (hK0 : KS w s C0) (hG : LaidRows w) :
  Calls Tryd.prog 3 #[.agg ⟨C0⟩, .int .i64 b] w fun e w' => e = .returned (.bool true) ∧ Below w.heap.size w w':=by
 have hu1:=Lib.hid Tryd.underlying27
 have hu2:=Lib.hid Tryd.underlying31
 have HI0 : Hid ((Tryd.prog.info? 27).map (·.size) = some C0.length):=Lib.hid hK0.infoL
 have HK0:=Lib.hid hK0
 have HG:=Lib.hid hG
 have HSZ:=Lib.hid (szScan_v s hl)
 have H0:=Lib.hid h0
 have HBY:=Lib.hid hby
 clear hK0 hG hl h0 hby
 by_cases c : (1048576 : Int) < s.data.length
 ·simp only [if_pos c] at HSZ
  clear c
  go_enter Tryd.func3,Tryd.ntmps3
  go_wp2_with (first | ((with_reducible refine gate_dst (N:=2) rfl ?_);refine box_event ?hg (N:=2) ?hd (cs:=⟨C0⟩) (t:=27) ?hr ?_;(case hd => rfl);(case hg => rfl);(case hr => first | (go_simp;done) | (go_simp;rfl));intro g2 hg w1 hbox hb;have HAw1:=Lib.hid (Ax.new HK0.out (Below.refl _ _) hg hb hbox);clear hg hbox hb) | ((with_reducible refine gate_dst (N:=16) rfl ?_);refine load_all rfl rfl (g:=g2) rfl HAw1.out.blk hu1.out HI0.out ?_) | (go_at_call 5;refine (HSZ.out _ _ HAw1.out.K).mono ?_;rintro e w2 ⟨rfl,hb⟩;have HAw2:=Lib.hid (HAw1.out.step hb);clear hb))
  go_ret
  exact ⟨rfl,HAw2.out.bel⟩
 ·have c1 : decide ((1048576 : Int) - s.data.length < 0) = false:=decide_eq_false (by omega)
  have HD : Hid (s.data.length ≤ 10000000):=Lib.hid (by omega)
  have HVL:=Lib.hid (scanV_len s b)
  have HV : Hid ((scanV s b).1.data.length ≤ 10000000):=Lib.hid (by have:=HVL.out;omega)
  simp only [if_neg c] at HSZ
  have HSP:=Lib.hid (specScan_v s b H0.out HBY.out)
  have HIM:=Lib.hid (implScan_v s b H0.out HBY.out)
  clear c HVL
  generalize (1048576 : Int) - s.data.length = R at HSZ c1
  generalize scanV s b = V at HSP HIM HV
  have hn1 : decide ((1 : Int) + (s.data.length : Int) < 0) = false:=decide_eq_false (by omega)
  have hn2 : decide ((1 : Int) + (V.1.data.length : Int) < 0) = false:=decide_eq_false (by omega)
  have hbn : (V.2 != V.2) = false:=bne_self_eq_false _
  have hbm : ((1 : Int) + (V.1.data.length : Int) != (1 : Int) + (V.1.data.length : Int)) = false:=bne_self_eq_false _
  go_enter Tryd.func3,Tryd.ntmps3
  go_upto_region 5 with (first | ((with_reducible refine gate_dst (N:=2) rfl ?_);refine box_event ?hg (N:=2) ?hd (cs:=⟨C0⟩) (t:=27) ?hr ?_;(case hd => rfl);(case hg => rfl);(case hr => first | (go_simp;done) | (go_simp;rfl));intro g2 hg w1 hbox hb;have HAw1:=Lib.hid (Ax.new HK0.out (Below.refl _ _) hg hb hbox);clear hg hbox hb) | ((with_reducible refine gate_dst (N:=16) rfl ?_);refine load_all rfl rfl (g:=g2) rfl HAw1.out.blk hu1.out HI0.out ?_) | (go_at_call 5;refine (HSZ.out _ _ HAw1.out.K).mono ?_;rintro e w2 ⟨rfl,hb⟩;have HAw2:=Lib.hid (HAw1.out.step hb);clear hb))
  go_upto_region 6 with (first | ((with_reducible refine gate_dst (N:=22) rfl ?_);refine load_all rfl rfl (g:=g2) rfl HAw2.out.blk hu1.out HI0.out ?_) | (go_at_call 7;refine (toScan_v s HD.out HAw2.out.K).mono ?_;rintro e w3 ⟨C1,rfl,hm,hb⟩;have HAw3:=Lib.hid (HAw2.out.step hb);have HS1:=Lib.hid hm;clear hm;clear hb) | (go_at_call 6;refine (HSP.out _ _ HS1.out.toK).mono ?_;rintro e w4 ⟨C6,rfl,hm,hb⟩;have HAw4:=Lib.hid (HAw3.out.step hb);have HS6:=Lib.hid hm;have HL6 : Hid (w3.heap.size ≤ w4.heap.size):=Lib.hid hb.size;have HO6_2:=Lib.hid (blk_lt HAw3.out.blk);have HI6 : Hid ((Tryd.prog.info? 31).map (·.size) = some C6.length):=Lib.hid hm.toK.info;clear hm;clear hb) | ((with_reducible refine gate_dst (N:=6) rfl ?_);refine box_event ?hg (N:=6) ?hd (cs := #[.int .i64 0, .int .i64 0, .int .i64 0, .int .i64 0, .int .i64 0, .int .i64 0, .bool false, .int .u32 0, .bool false, .int .i64 0, .slice none 0 0]) (t:=31) ?hr ?_;(case hd => rfl);(case hg => rfl);(case hr => first | (go_simp;done) | (go_simp;rfl));intro g6 hg w5 hbox hb;have HZ6:=Lib.hid hbox;have HN6:=Lib.hid hg;have HM6:=Lib.hid hb;clear hg hbox hb) | ((with_reducible refine gate_store (t:=31) (p:=6) rfl ?_);refine store_all rfl rfl rfl (g:=g6) (C:=C6) rfl rfl HZ6.out HI6.out HS6.out.toK.one HS6.out.toK.len.symm ?_;intro w6 hx hT;have HAw6:=Lib.hid (HAw4.out.over HM6.out HN6.out hT);have HX6w6:=Lib.hid (Bx.new (cs := #[.int .i64 0, .int .i64 0, .int .i64 0, .int .i64 0, .int .i64 0, .int .i64 0, .bool false, .int .u32 0, .bool false, .int .i64 0, .slice none 0 0]) HAw3.out.bel.size HL6.out HS6.out HM6.out HN6.out hx hT);clear hx hT))
  go_upto_region 7 with (first | ((with_reducible refine gate_dst (N:=28) rfl ?_);refine load_all rfl rfl (g:=g2) rfl HAw6.out.blk hu1.out HI0.out ?_) | (go_at_call 7;refine (toScan_v s HD.out HAw6.out.K).mono ?_;rintro e w7 ⟨C8,rfl,hm,hb⟩;have HAw7:=Lib.hid (HAw6.out.step hb);have HX6w7:=Lib.hid (HX6w6.out.step hb);have HS8:=Lib.hid hm;have HL8 : Hid (w6.heap.size ≤ w7.heap.size):=Lib.hid hb.size;have HO8_2:=Lib.hid (blk_lt HAw6.out.blk);have HO8_6:=Lib.hid (blk_lt HX6w6.out.blk);have HI8 : Hid ((Tryd.prog.info? 31).map (·.size) = some C8.length):=Lib.hid hm.toK.info;clear hm;clear hb) | ((with_reducible refine gate_dst (N:=8) rfl ?_);refine box_event ?hg (N:=8) ?hd (cs := #[.int .i64 0, .int .i64 0, .int .i64 0, .int .i64 0, .int .i64 0, .int .i64 0, .bool false, .int .u32 0, .bool false, .int .i64 0, .slice none 0 0]) (t:=31) ?hr ?_;(case hd => rfl);(case hg => rfl);(case hr => first | (go_simp;done) | (go_simp;rfl));intro g8 hg w8 hbox hb;have HZ8:=Lib.hid hbox;have HN8:=Lib.hid hg;have HM8:=Lib.hid hb;clear hg hbox hb) | ((with_reducible refine gate_store (t:=31) (p:=8) rfl ?_);refine store_all rfl rfl rfl (g:=g8) (C:=C8) rfl rfl HZ8.out HI8.out HS8.out.toK.one HS8.out.toK.len.symm ?_;intro w9 hx hT;have HAw9:=Lib.hid (HAw7.out.over HM8.out HN8.out hT);have HX6w9:=Lib.hid (HX6w7.out.over HM8.out HN8.out hT);have HX8w9:=Lib.hid (Bx.new (cs := #[.int .i64 0, .int .i64 0, .int .i64 0, .int .i64 0, .int .i64 0, .int .i64 0, .bool false, .int .u32 0, .bool false, .int .i64 0, .slice none 0 0]) HAw6.out.bel.size HL8.out HS8.out HM8.out HN8.out hx hT);clear hx hT))
  go_upto_region 8 with (first | ((with_reducible refine gate_dst (N:=31) rfl ?_);refine load_all rfl rfl (g:=g8) rfl HX8w9.out.blk hu2.out HI8.out ?_) | (go_at_call 8;refine (HIM.out _ (HG.out.next HAw9.out.bel) _ HX8w9.out.K).mono ?_;rintro e w10 ⟨C9,rfl,hm,hb⟩;have HAw10:=Lib.hid (HAw9.out.step hb);have HX6w10:=Lib.hid (HX6w9.out.step hb);have HX8w10:=Lib.hid (HX8w9.out.step hb);have HS9:=Lib.hid hm;have HL9 : Hid (w9.heap.size ≤ w10.heap.size):=Lib.hid hb.size;have HO9_2:=Lib.hid (blk_lt HAw9.out.blk);have HO9_6:=Lib.hid (blk_lt HX6w9.out.blk);have HO9_8:=Lib.hid (blk_lt HX8w9.out.blk);have HI9 : Hid ((Tryd.prog.info? 31).map (·.size) = some C9.length):=Lib.hid hm.toK.info;clear hm;clear hb) | ((with_reducible refine gate_dst (N:=9) rfl ?_);refine box_event ?hg (N:=9) ?hd (cs := #[.int .i64 0, .int .i64 0, .int .i64 0, .int .i64 0, .int .i64 0, .int .i64 0, .bool false, .int .u32 0, .bool false, .int .i64 0, .slice none 0 0]) (t:=31) ?hr ?_;(case hd => rfl);(case hg => rfl);(case hr => first | (go_simp;done) | (go_simp;rfl));intro g9 hg w11 hbox hb;have HZ9:=Lib.hid hbox;have HN9:=Lib.hid hg;have HM9:=Lib.hid hb;clear hg hbox hb) | ((with_reducible refine gate_store (t:=31) (p:=9) rfl ?_);refine store_all rfl rfl rfl (g:=g9) (C:=C9) rfl rfl HZ9.out HI9.out HS9.out.toK.one HS9.out.toK.len.symm ?_;intro w12 hx hT;have HAw12:=Lib.hid (HAw10.out.over HM9.out HN9.out hT);have HX6w12:=Lib.hid (HX6w10.out.over HM9.out HN9.out hT);have HX8w12:=Lib.hid (HX8w10.out.over HM9.out HN9.out hT);have HX9w12:=Lib.hid (Bx.new (cs := #[.int .i64 0, .int .i64 0, .int .i64 0, .int .i64 0, .int .i64 0, .int .i64 0, .bool false, .int .u32 0, .bool false, .int .i64 0, .slice none 0 0]) HAw9.out.bel.size HL9.out HS9.out HM9.out HN9.out hx hT);clear hx hT))
  go_upto_region 10 with (first | ((with_reducible refine gate_dst (N:=36) rfl ?_);refine load_all rfl rfl (g:=g9) rfl HX9w12.out.blk hu2.out HI9.out ?_) | ((with_reducible refine gate_dst (N:=37) rfl ?_);refine load_all rfl rfl (g:=g6) rfl HX6w12.out.blk hu2.out HI6.out ?_) | (go_at_call 9;refine (eqScan_v V.1 HV.out HX9w12.out.K HX6w12.out.K).mono ?_;rintro e w13 ⟨rfl,hb⟩;have HAw13:=Lib.hid (HAw12.out.step hb);have HX6w13:=Lib.hid (HX6w12.out.step hb);have HX8w13:=Lib.hid (HX8w12.out.step hb);have HX9w13:=Lib.hid (HX9w12.out.step hb);clear hb))
  have HR : ∀ w' : World,w'.heap[g8]? = some (.cells ⟨C8⟩ 31 (0,0)) → w'.heap[g2]? = some (.cells ⟨C0⟩ 27 (0,0)) → (w'.rangeAt g8 0 C8 ∧ w'.rangeAt g2 0 C0):=fun w' h1 h2 => ⟨range_all h1,range_all h2⟩
  have HH:=Lib.hid HR
  clear HR
  have hbd : Below w13.heap.size w13 w13.drew:=below_drew (Below.refl _ _)
  have HAw13d:=Lib.hid (HAw13.out.step hbd)
  have HX6w13d:=Lib.hid (HX6w13.out.step hbd)
  have HX8w13d:=Lib.hid (HX8w13.out.step hbd)
  have HX9w13d:=Lib.hid (HX9w13.out.step hbd)
  clear hbd
  refine wp_region_held_drew (S:=fun w' : World => w'.rangeAt g8 0 C8 ∧ w'.rangeAt g2 0 C0) (by kernel_rfl) (HH.out _ HX8w13d.out.blk HAw13d.out.blk) (fun hH0 => ?_)
  refine' wpAnyH_take (i:=0) (oi:=_) (v:=_) rfl (by kernel_rfl) (by kernel_rfl) (by kernel_rfl) (fun _ _ _ h => h) (yieldsIf_load_mid (by rfl) _ _ rfl g8 0 rfl C8 _ (fun w h => h.1) hu2.out rfl HI8.out) (by assumption) ?rest
  refine' wpAnyH_take (i:=1) (oi:=_) (v:=_) rfl (by kernel_rfl) (by kernel_rfl) (by kernel_rfl) (fun _ _ _ h => h) (yieldsIf_load_mid (by rfl) _ _ rfl g2 0 rfl C0 _ (fun w h => h.2) hu1.out rfl HI0.out) (by assumption) ?rest2
  refine wpAnyH_ready (rs := [2]) (by kernel_rfl) (by simp) ?_
  refine AllReadyH.cons rfl (fun K hK => ?_) AllReadyH.nil
  clear hH0
  go_simp
  go_wp2_with (first | (go_at_call 7;refine (toScan_v s HD.out HAw13d.out.K).mono ?_;rintro e w14 ⟨C3,rfl,hm,hb⟩;have HAw14:=Lib.hid (HAw13d.out.step hb);have HX6w14:=Lib.hid (HX6w13d.out.step hb);have HX8w14:=Lib.hid (HX8w13d.out.step hb);have HX9w14:=Lib.hid (HX9w13d.out.step hb);have HS3:=Lib.hid hm;clear hm;clear hb))
  refine hK.out _ _ (HH.out _ HX8w14.out.blk HAw14.out.blk) (fun hH1 => ?_)
  clear hK K
  refine wpAnyH_ready (rs := [3]) (by kernel_rfl) (by simp) ?_
  refine AllReadyH.cons rfl (fun K hK => ?_) AllReadyH.nil
  clear hH1
  go_simp
  go_wp2_with (first | (go_at_call 9;refine (eqScan_v s HD.out HX8w14.out.K HS3.out.toK).mono ?_;rintro e w15 ⟨rfl,hb⟩;have HAw15:=Lib.hid (HAw14.out.step hb);have HX6w15:=Lib.hid (HX6w14.out.step hb);have HX8w15:=Lib.hid (HX8w14.out.step hb);have HX9w15:=Lib.hid (HX9w14.out.step hb);clear hb))
  refine hK.out _ _ (HH.out _ HX8w15.out.blk HAw15.out.blk) (fun hH2 => ?_)
  clear hK K
  refine wpAnyH_ready (rs := [4]) (by kernel_rfl) (by simp) ?_
  refine AllReadyH.cons rfl (fun K hK => ?_) AllReadyH.nil
  clear hH2
  go_simp
  refine hK.out _ _ (HH.out _ HX8w15.out.blk HAw15.out.blk) (fun hH3 => ?_)
  clear hK K hH3
  refine wpAnyH_done (by kernel_rfl) ?_ _
  go_upto_region 14 with (first | ((with_reducible refine gate_dst (N:=50) rfl ?_);refine load_all rfl rfl (g:=g8) rfl HX8w15.out.blk hu2.out HI8.out ?_) | (go_at_call 10;refine (markScan_v s HD.out HAw15.out.bel HX8w15.out).mono ?_;rintro e w16 ⟨rfl,hks,hB,hk⟩;have HAw16 : Hid (Ax w w16 g2 s C0):=Lib.hid ⟨blk_kept HAw15.out.blk hk (fun h => by have:=HO8_2.out;omega),HAw15.out.ge,HAw15.out.key,hB⟩;have HX6w16:=Lib.hid (HX6w15.out.kept hk (fun k hk1 hk2 => by have this:=HX6w15.out.mg;have this:=HX8w15.out.mg;have this:=HX9w15.out.mg;have this:=HO8_6.out;have this:=HO9_8.out;omega) (fun hk2 => by have this:=HX6w15.out.mg;have this:=HX8w15.out.mg;have this:=HX9w15.out.mg;have this:=HO8_6.out;have this:=HO9_8.out;omega));have HX9w16:=Lib.hid (HX9w15.out.kept hk (fun k hk1 hk2 => by have this:=HX6w15.out.mg;have this:=HX8w15.out.mg;have this:=HX9w15.out.mg;have this:=HO8_6.out;have this:=HO9_8.out;omega) (fun hk2 => by have this:=HX6w15.out.mg;have this:=HX8w15.out.mg;have this:=HX9w15.out.mg;have this:=HO8_6.out;have this:=HO9_8.out;omega));have HMK8:=Lib.hid hks;clear hks hB hk))
  go_upto_region 16 with (first | ((with_reducible refine gate_dst (N:=56) rfl ?_);refine load_allw (by rfl) rfl (g:=g9) rfl HX9w16.out.blk hu2.out HI9.out ?_) | ((with_reducible refine gate_dst (N:=57) rfl ?_);refine load_allw (by rfl) rfl (g:=g6) rfl HX6w16.out.blk hu2.out HI6.out ?_) | (go_at_call 9;refine (eqScan_v V.1 HV.out HX9w16.out.K HX6w16.out.K).mono ?_;rintro e w17 ⟨rfl,hb⟩;have HAw17:=Lib.hid (HAw16.out.step hb);have HX6w17:=Lib.hid (HX6w16.out.step hb);have HX9w17:=Lib.hid (HX9w16.out.step hb);clear hb))
  go_upto_region 19 with (first | ((with_reducible refine gate_dst (N:=66) rfl ?_);refine load_all rfl rfl (g:=g9) rfl HX9w17.out.blk hu2.out HI9.out ?_) | (go_at_call 10;refine (markScan_v V.1 HV.out HAw17.out.bel HX9w17.out).mono ?_;rintro e w18 ⟨rfl,hks,hB,hk⟩;have HAw18 : Hid (Ax w w18 g2 s C0):=Lib.hid ⟨blk_kept HAw17.out.blk hk (fun h => by have:=HO9_2.out;omega),HAw17.out.ge,HAw17.out.key,hB⟩;have HX6w18:=Lib.hid (HX6w17.out.kept hk (fun k hk1 hk2 => by have this:=HX6w17.out.mg;have this:=HO9_6.out;omega) (fun hk2 => by have this:=HX6w17.out.mg;have this:=HO9_6.out;omega));have HMB9:=Lib.hid (blk_kept HX9w17.out.blk hk (fun h => by have:=HX9w17.out.mg;omega));have HMK9:=Lib.hid hks;clear hks hB hk))
  go_upto_region 20 with (first | ((with_reducible refine gate_dst (N:=69) rfl ?_);refine load_all rfl rfl (g:=g9) rfl HMB9.out hu2.out HI9.out ?_) | (go_at_call 11;refine (heldScan_v V.1 V.1.data.length HV.out HMK9.out).mono ?_;rintro e w19 ⟨rfl,hb⟩;have HAw19:=Lib.hid (HAw18.out.step hb);have HX6w19:=Lib.hid (HX6w18.out.step hb);clear hb))
  go_upto_region 24 with (first | fail)
  go_upto_region 25 with (first | ((with_reducible refine gate_dst (N:=78) rfl ?_);refine load_all rfl rfl (g:=g2) rfl HAw19.out.blk hu1.out HI0.out ?_) | (go_at_call 7;refine (toScan_v s HD.out HAw19.out.K).mono ?_;rintro e w20 ⟨C7,rfl,hm,hb⟩;have HAw20:=Lib.hid (HAw19.out.step hb);have HX6w20:=Lib.hid (HX6w19.out.step hb);have HS7:=Lib.hid hm;clear hm;clear hb) | (go_at_call 8;refine (HIM.out _ (HG.out.next HAw20.out.bel) _ HS7.out.toK).mono ?_;rintro e w21 ⟨C14,rfl,hm,hb⟩;have HAw21:=Lib.hid (HAw20.out.step hb);have HX6w21:=Lib.hid (HX6w20.out.step hb);have HS14:=Lib.hid hm;have HL14 : Hid (w20.heap.size ≤ w21.heap.size):=Lib.hid hb.size;have HO14_2:=Lib.hid (blk_lt HAw20.out.blk);have HO14_6:=Lib.hid (blk_lt HX6w20.out.blk);have HI14 : Hid ((Tryd.prog.info? 31).map (·.size) = some C14.length):=Lib.hid hm.toK.info;clear hm;clear hb) | ((with_reducible refine gate_dst (N:=14) rfl ?_);refine box_event ?hg (N:=14) ?hd (cs := #[.int .i64 0, .int .i64 0, .int .i64 0, .int .i64 0, .int .i64 0, .int .i64 0, .bool false, .int .u32 0, .bool false, .int .i64 0, .slice none 0 0]) (t:=31) ?hr ?_;(case hd => rfl);(case hg => rfl);(case hr => first | (go_simp;done) | (go_simp;rfl));intro g14 hg w22 hbox hb;have HZ14:=Lib.hid hbox;have HN14:=Lib.hid hg;have HM14:=Lib.hid hb;clear hg hbox hb) | ((with_reducible refine gate_store (t:=31) (p:=14) rfl ?_);refine store_all rfl rfl rfl (g:=g14) (C:=C14) rfl rfl HZ14.out HI14.out HS14.out.toK.one HS14.out.toK.len.symm ?_;intro w23 hx hT;have HAw23:=Lib.hid (HAw21.out.over HM14.out HN14.out hT);have HX6w23:=Lib.hid (HX6w21.out.over HM14.out HN14.out hT);have HX14w23:=Lib.hid (Bx.new (cs := #[.int .i64 0, .int .i64 0, .int .i64 0, .int .i64 0, .int .i64 0, .int .i64 0, .bool false, .int .u32 0, .bool false, .int .i64 0, .slice none 0 0]) HAw20.out.bel.size HL14.out HS14.out HM14.out HN14.out hx hT);clear hx hT))
  go_wp2_with (first | ((with_reducible refine gate_dst (N:=84) rfl ?_);refine load_all rfl rfl (g:=g14) rfl HX14w23.out.blk hu2.out HI14.out ?_) | ((with_reducible refine gate_dst (N:=85) rfl ?_);refine load_all rfl rfl (g:=g6) rfl HX6w23.out.blk hu2.out HI6.out ?_) | (go_at_call 9;refine (eqScan_v V.1 HV.out HX14w23.out.K HX6w23.out.K).mono ?_;rintro e w24 ⟨rfl,hb⟩;have HAw24:=Lib.hid (HAw23.out.step hb);have HX6w24:=Lib.hid (HX6w23.out.step hb);have HX14w24:=Lib.hid (HX14w23.out.step hb);clear hb))
  go_ret
  exact ⟨rfl,HAw24.out.bel⟩
end Go.Proofs.YtdoclpgciadjaaaDoor.Pure

namespace Go.Proofs.YtdoclpgciadjaaaDoor.P
open Go Go.RowKit Go.Deep Go.Proofs.YtdoclpgciadjaaaDoorW.PrintWords
set_option linter.unusedVariables false
def Reads (P : Program) (t : TypeId) {α : Type} (d : Kd α) (B : α → Prop) : Prop :=
 ∀ (H : Type) (enc : TypeId × Value → H) (w : World) (base : Nat) (spare : Nat → Bool) (held : Bool) (fuel : Nat) (cs : List Value) (x : DataW H × List MemPlace),DataW.trod enc P w base spare held fuel t cs = some x → ∃ v : α,d.K w v cs ∧ B v
theorem reads_int {P : Program} {t : TypeId} {k : IntKind} (h : P.underlying t = some (.int k)) : Reads P t (Kd.int k) (fun n => (Lit.int k n).wf = true):=by
 intro H enc w base spare held fuel cs x hx
 obtain ⟨n,hc,_,hw⟩:=DataW.trod_int h hx
 exact ⟨n,hc,hw⟩
theorem reads_bool {P : Program} {t : TypeId} (h : P.underlying t = some .bool) : Reads P t Kd.bool (fun _ => True):=by
 intro H enc w base spare held fuel cs x hx
 obtain ⟨n,hc,_⟩:=DataW.trod_bool h hx
 exact ⟨n,hc,trivial⟩
theorem reads_slice {P : Program} {t e : TypeId} {α : Type} {d : Kd α} {B : α → Prop} (h : P.underlying t = some (.slice e)) (hc : P.cellsOf e = d.sz) (hd : Reads P e d B) : Reads P t (Kd.slice e d) (fun xs => xs.length ≤ maxLen ∧ ∀ x ∈ xs,B x):=by
 intro H enc w base spare held fuel cs x hx
 rcases open_slice h hx with ⟨rfl,_⟩ | ⟨a,len,cap,m,n,D,Pl,rfl,_,hl,hm,hmm,_,hi⟩
 ·exact ⟨[],⟨none,0,rfl,Nat.le_refl _,rfl,by simp,fun h => absurd h (by simp)⟩,by simp [maxLen],fun x hx => by cases hx⟩
 ·have hlm : len ≤ m:=by rw [hmm];split <;> omega
  have key : ∀ i : Fin len, ∃ v : α,B v ∧ ∃ c,c.length = d.sz ∧ d.K w v c ∧ ∀ j u,c[j]? = some u → w.cell? (a.add (i.val * d.sz + j)) = some u:=by
   intro i
   obtain ⟨cs',h1,h2⟩:=hi i.val (by omega)
   obtain ⟨v,hk,hb⟩:=hd H enc w base spare held n cs' _ h2
   obtain ⟨_,hcl,hat⟩:=World.cells?_some h1
   refine ⟨v,hb,cs',d.K_len hk,hk,fun j u hj => ?_⟩
   have hjl : j < cs'.length:=(List.getElem?_eq_some_iff.1 hj).1
   have:=hat j (by omega)
   rw [← hc, ← Go.Deep.add_add,this,hj]
  have hv : ∃ f : Fin len → α, ∀ i,B (f i) ∧ ∃ c,c.length = d.sz ∧ d.K w (f i) c ∧ ∀ j u,c[j]? = some u → w.cell? (a.add (i.val * d.sz + j)) = some u:=⟨fun i => (key i).choose,fun i => (key i).choose_spec⟩
  obtain ⟨f,hf⟩:=hv
  have hml : len ≤ 9223372036854775807:=by simp only [maxLen] at hm;omega
  refine ⟨List.ofFn f,⟨some a,cap,by rw [List.length_ofFn],by rw [List.length_ofFn];exact hl,rfl,by rw [List.length_ofFn];exact hml,fun _ => ⟨a,rfl,fun j p hj => ?_⟩⟩,by rw [List.length_ofFn];omega,fun x hx => ?_⟩
  ·obtain ⟨hjl,rfl⟩:=List.getElem?_eq_some_iff.1 hj
   rw [List.length_ofFn] at hjl
   rw [List.getElem_ofFn]
   obtain ⟨_,c,h1,h2,h3⟩:=hf ⟨j,hjl⟩
   exact ⟨c,h1,h2,h3⟩
  ·obtain ⟨i,rfl⟩:=(List.mem_ofFn).1 hx
   exact (hf i).1
def ReadsFields (P : Program) (fs : List Field) (o : Nat) {α : Type} (d : Kd α) (B : α → Prop) : Prop :=
 ∀ (H : Type) (enc : TypeId × Value → H) (w : World) (base : Nat) (spare : Nat → Bool) (held : Bool) (fuel : Nat) (cs : List Value),cs.length = o + d.sz →
  (∀ f ∈ fs, ∃ x,DataW.trod enc P w base spare held fuel f.type ((cs.drop f.offset).take (P.cellsOf f.type)) = some x) → ∃ v : α,d.K w v (cs.drop o) ∧ B v
theorem rf_last {P : Program} {f : Field} {o : Nat} {α : Type} {d : Kd α} {B : α → Prop} (ho : f.offset = o) (hc : P.cellsOf f.type = d.sz) (hd : Reads P f.type d B) : ReadsFields P [f] o d B:=by
 intro H enc w base spare held fuel cs hl hf
 obtain ⟨x,hx⟩:=hf f (by simp)
 rw [ho,hc,List.take_of_length_le (by rw [List.length_drop];omega)] at hx
 exact hd H enc w base spare held fuel _ _ hx
theorem rf_cons {P : Program} {f : Field} {fs : List Field} {o : Nat} {α β : Type} {a : Kd α} {b : Kd β} {A : α → Prop} {B : β → Prop} (ho : f.offset = o) (hc : P.cellsOf f.type = a.sz) (ha : Reads P f.type a A) (hb : ReadsFields P fs (o + a.sz) b B) :
  ReadsFields P (f :: fs) o (Kd.pair a b) (fun x => A x.1 ∧ B x.2):=by
 intro H enc w base spare held fuel cs hl hf
 have hl' : cs.length = o + (a.sz + b.sz):=hl
 obtain ⟨x,hx⟩:=hf f List.mem_cons_self
 rw [ho,hc] at hx
 obtain ⟨v,hv,hA⟩:=ha H enc w base spare held fuel _ _ hx
 obtain ⟨u,hu,hB⟩:=hb H enc w base spare held fuel cs (by omega) (fun g hg => hf g (List.mem_cons_of_mem _ hg))
 refine ⟨(v,u),⟨(cs.drop o).take a.sz,cs.drop (o + a.sz), ?_,hv,hu⟩,hA,hB⟩
 rw [← List.drop_drop,List.take_append_drop]
theorem reads_struct {P : Program} {t : TypeId} {fs : Array Field} {α β : Type} {d : Kd α} {B : α → Prop} (f : β → α) (g : α → β) (hfg : ∀ x,f (g x) = x) (h : P.underlying t = some (.struct fs)) (hc : P.cellsOf t = d.sz) (hr : ReadsFields P fs.toList 0 d B) : Reads P t (Kd.iso d f) (fun x => B (f x)):=by
 intro H enc w base spare held fuel cs x hx
 obtain ⟨xs,n,_,_,hl,hxl,hg⟩:=DataW.trod_struct h hx
 obtain ⟨v,hv,hB⟩:=hr H enc w base spare held n cs (by rw [hl,hc];omega) (fun fd hfd => by
  obtain ⟨i,hi,rfl⟩:=List.getElem_of_mem hfd
  have hi' : i < fs.size:=by simpa using hi
  have:=hg i fs[i] (by rw [Array.getElem?_eq_getElem hi'])
  rw [List.getElem?_eq_getElem (show i < xs.length by omega)] at this
  rw [Array.getElem_toList]
  exact ⟨_,this⟩)
 refine ⟨g v, ?_,by show B (f (g v));rw [hfg];exact hB⟩
 show d.K w (f (g v)) cs
 rw [hfg]
 exact hv
end Go.Proofs.YtdoclpgciadjaaaDoor.P

namespace Go.Proofs.YtdoclpgciadjaaaDoor.P
open Go.RowKit Go.Proofs.YtdoclpgciadjaaaDoorW.PrintWords Go.Proofs.YtdoclpgciadjaaaDoorW.PrintLast Go.Proofs.YtdoclpgciadjaaaDoorW.PrintMore
set_option linter.unusedVariables false
set_option linter.unusedSimpArgs false
def b25 (x : S25) : Prop:=True ∧ (Lit.int .u32 x.f1).wf = true ∧ True ∧ (Lit.int .i64 x.f3).wf = true ∧ (x.f4.length ≤ maxLen ∧ ∀ y_ ∈ x.f4,(Lit.int .u8 y_).wf = true)
theorem reads25 : Reads Tryd.prog 25 k25 b25:=reads_struct (fun x : S25 => (x.f0,x.f1,x.f2,x.f3,x.f4)) (fun y => ⟨y.1,y.2.1,y.2.2.1,y.2.2.2.1,y.2.2.2.2⟩) (fun _ => rfl) Tryd.underlying25 (by kernel_rfl) (rf_cons rfl (by kernel_rfl) (reads_bool Tryd.underlying4) (rf_cons rfl (by kernel_rfl) (reads_int Tryd.underlying22) (rf_cons rfl (by kernel_rfl) (reads_bool Tryd.underlying4) (rf_cons rfl (by kernel_rfl) (reads_int Tryd.underlying3) (rf_last rfl (by kernel_rfl) (reads_slice Tryd.underlying23 (by kernel_rfl) (reads_int Tryd.underlying5)))))))
def b27 (x : S27) : Prop:=(Lit.int .i64 x.f0).wf = true ∧ (Lit.int .i64 x.f1).wf = true ∧ (Lit.int .i64 x.f2).wf = true ∧ (Lit.int .i64 x.f3).wf = true ∧ (Lit.int .i64 x.f4).wf = true ∧ (Lit.int .i64 x.f5).wf = true ∧ b25 x.f6
theorem reads27 : Reads Tryd.prog 27 k27 b27:=reads_struct (fun x : S27 => (x.f0,x.f1,x.f2,x.f3,x.f4,x.f5,x.f6)) (fun y => ⟨y.1,y.2.1,y.2.2.1,y.2.2.2.1,y.2.2.2.2.1,y.2.2.2.2.2.1,y.2.2.2.2.2.2⟩) (fun _ => rfl) Tryd.underlying27 (by kernel_rfl) (rf_cons rfl (by kernel_rfl) (reads_int Tryd.underlying3) (rf_cons rfl (by kernel_rfl) (reads_int Tryd.underlying3) (rf_cons rfl (by kernel_rfl) (reads_int Tryd.underlying3) (rf_cons rfl (by kernel_rfl) (reads_int Tryd.underlying3) (rf_cons rfl (by kernel_rfl) (reads_int Tryd.underlying3) (rf_cons rfl (by kernel_rfl) (reads_int Tryd.underlying3) (rf_last rfl (by kernel_rfl) reads25)))))))
end Go.Proofs.YtdoclpgciadjaaaDoor.P
