/- Texts of the proof of CFnScanner, joined. -/
import Derived.Test.YtdoclpgciadjaaaDoorSCFnScanner22
namespace Go.Proofs.YtdoclpgciadjaaaDoor.P
open Go.RowKit Go.Proofs.YtdoclpgciadjaaaDoorW.PrintWords Go.Proofs.YtdoclpgciadjaaaDoorW.PrintLast Go.Proofs.YtdoclpgciadjaaaDoorW.PrintMore
set_option linter.unusedVariables false
set_option linter.unusedSimpArgs false
set_option maxHeartbeats 1000000 in
set_option maxRecDepth 100000 in
theorem scan_same_crc_1_0 (w : World) (s : SS) (A : Option Addr) (c : Nat) (hr : Kd.C (Kd.int .u8) w A s.data.length s.data) (hc : s.data.length ≤ c) (hG : LaidRows w) (hs : Sound s) (i0 : 0 ≤ s.id) (hby : ∀ x ∈ s.data,0 ≤ x ∧ x < 256) (h5 : s.run ≠ 5) (hv : verdictV s 1 = 0) (hlim : s.field = 14 → s.left ≠ 1) (hq : s.field ≤ 10) (hr0 : 0 < s.run) (hlv : s.level = 1) (hcr : s.field ≤ 9) :
  Calls Tryd.prog 8 #[.agg #[.int .i64 s.field, .int .i64 s.left, .int .i64 s.run, .int .i64 s.level, .int .i64 s.crc, .int .i64 s.acc, .bool s.ext, .int .u32 s.id, .bool s.rtr, .int .i64 s.dlc,(.slice A s.data.length c)], .int .i64 1] w fun e w' => ∃ v : Value,e = .returned (.tuple #[.agg #[.int .i64 (stepS (takeS (crcT (runS s 1) 1) 1)).field, .int .i64 (stepS (takeS (crcT (runS s 1) 1) 1)).left, .int .i64 (stepS (takeS (crcT (runS s 1) 1) 1)).run, .int .i64 (stepS (takeS (crcT (runS s 1) 1) 1)).level, .int .i64 (stepS (takeS (crcT (runS s 1) 1) 1)).crc, .int .i64 (stepS (takeS (crcT (runS s 1) 1) 1)).acc, .bool (stepS (takeS (crcT (runS s 1) 1) 1)).ext, .int .u32 (stepS (takeS (crcT (runS s 1) 1) 1)).id, .bool (stepS (takeS (crcT (runS s 1) 1) 1)).rtr, .int .i64 (stepS (takeS (crcT (runS s 1) 1) 1)).dlc,v], .int .i64 0]) ∧ Kd.R (Kd.int .u8) 5 w' w.heap.size (fun _ => True) v (stepS (takeS (crcT (runS s 1) 1) 1)).data ∧ Below w.heap.size w w':=by
 have HR:=Lib.hid hr
 have HC:=Lib.hid hc
 have HG:=Lib.hid hG
 clear hr hc hG
 have HS:=Lib.hid hs
 have HCP : Hid (impl_copyFrame.f s.ext s.id s.rtr s.dlc s.data = some (s.ext,s.id,s.rtr,s.dlc,s.data)):=Lib.hid (copy_eq (by have:=hs.dl;omega))
 have HSB : Hid (Sound s):=Lib.hid hs
 have HVB : Hid (verdictV s 1 = 0):=Lib.hid hv
 have b5 : (s.run == 5) = false:=beq_eq_false_iff_ne.mpr h5
 have r0:=hs.r0
 have r1:=hs.r1
 have f0:=hs.f0
 have bl : (s.level == 1) = true:=beq_iff_eq.mpr hlv
 have HE1 : Hid (crcT (runS s 1) 1 = ({ s with run:=s.run + 1,crc:=crcI s.crc 1 } : SS)):=Lib.hid (by rw [show runS s 1 = ({ s with run:=s.run + 1 } : SS) by unfold runS;rw [if_neg (by omega),if_pos ⟨hr0,hlv⟩]];unfold crcT;rw [if_pos (show s.field ≤ 9 from hcr)])
 have HOK : Hid (SOk ({ s with run:=s.run + 1,crc:=crcI s.crc 1 } : SS)):=Lib.hid (by have h:=hs.ok i0 hby;exact ⟨h.f0,h.f1,h.l0,h.l1,h.d0,h.d1,h.i0,h.i1,h.a0,h.a1,h.ne,h.by_,h.dl⟩)
 have HTK : Hid ((takeS ({ s with run:=s.run + 1,crc:=crcI s.crc 1 } : SS) 1).field = s.field ∧ (takeS ({ s with run:=s.run + 1,crc:=crcI s.crc 1 } : SS) 1).left = s.left):=Lib.hid (takeS_keep _ _)
 have HTD : Hid (0 ≤ (takeS ({ s with run:=s.run + 1,crc:=crcI s.crc 1 } : SS) 1).dlc ∧ (takeS ({ s with run:=s.run + 1,crc:=crcI s.crc 1 } : SS) 1).dlc ≤ 15):=Lib.hid (takeS_dlc (s := { s with run:=s.run + 1,crc:=crcI s.crc 1 }) hs.d0 hs.d1 _)
 have HF : Hid (1 ≤ s.field ∧ s.field ≤ 14 ∧ 1 ≤ s.left ∧ s.left ≤ 64 ∧ (s.field = 14 → s.left ≠ 1)):=Lib.hid ⟨hs.f0,hs.f1,hs.l0,by have:=(sizeF_le hs.f0 hs.f1 hs.d0).2;have:=hs.l1;omega,hlim⟩
 have h4 : s.run ≤ 4:=by omega
 clear hs i0 hby h5 hv hlim hlv
 rw [HE1.out]
 generalize hTT : takeS ({ s with run:=s.run + 1,crc:=crcI s.crc 1 } : SS) 1 = T at HTK HTD ⊢
 have HTT:=Lib.hid hTT
 clear hTT
 go_enter Tryd.func8,Tryd.ntmps8
 go_wp2_with (fail)
 (refine (sound_yes s HSB.out A c _ (Kd.C_alloc (Kd.C_alloc HR.out _) _) HC.out (HG.out.alloc _ |>.alloc _)).mono ?_;rintro e w1 ⟨rfl,hb1⟩;have HW1:=Lib.hid ((SbIn.start w s (.slice A s.data.length c)).step hb1);clear hb1)
 have hx6:=cS6 HW1.out.box
 have hx7:=cS7 HW1.out.box
 have hx8:=cS8 HW1.out.box
 have hx9:=cS9 HW1.out.box
 have hx10:=cS10 HW1.out.box
 go_wp2_with (fail)
 clear hx6 hx7 hx8 hx9 hx10
 (refine (impl_copyFrame.calls s.ext s.id s.rtr s.dlc A c s.data s.ext s.id s.rtr s.dlc s.data _ (Kd.C_below HR.out HW1.out.below) HC.out HCP.out).mono ?_;rintro e w2 ⟨v2,rfl,hr2,hb2⟩;obtain ⟨A2,c2,rfl⟩:=Kd.R_slice hr2;have HR2:=Lib.hid hr2;have HB2:=Lib.hid hb2;have HW2:=Lib.hid (HW1.out.step hb2);clear hr2 hb2)
 go_wp2_with ((with_reducible refine gate_store (t:=29) (p:=22) rfl ?_);refine store_box rfl rfl rfl (g:=w.heap.size) (j:=6) (cs := #[.int .i64 s.field, .int .i64 s.left, .int .i64 s.run, .int .i64 s.level, .int .i64 s.crc, .int .i64 s.acc, .bool s.ext, .int .u32 s.id, .bool s.rtr, .int .i64 s.dlc,(.slice A s.data.length c)]) (cs' := #[.int .i64 s.field, .int .i64 s.left, .int .i64 s.run, .int .i64 s.level, .int .i64 s.crc, .int .i64 s.acc, .bool s.ext, .int .u32 s.id, .bool s.rtr, .int .i64 s.dlc,(.slice A2 s.data.length c2)]) (T:=31) (u := .agg #[.bool s.ext, .int .u32 s.id, .bool s.rtr, .int .i64 s.dlc,(.slice A2 s.data.length c2)]) (seg := [.bool s.ext, .int .u32 s.id, .bool s.rtr, .int .i64 s.dlc,(.slice A2 s.data.length c2)]) rfl rfl HW2.out.box rfl (by kernel_rfl) rfl rfl rfl ?_;intro w3 hx hT;have HW3:=Lib.hid (SbO.ofCopy HW1.out HB2.out HR2.out hx hT);clear hx hT;obtain ⟨hc0,hc1,hc2,hc3,hc4,hc5,hc6,hc7,hc8,hc9,hc10⟩:=cSall HW3.out.box;obtain ⟨hf0,hf1,hf2,hf3,hf4,hf5,hf6,hf7,hf8,hf9,hf10⟩:=fSall HW3.out.box)
 (refine (verdict_run s 1 0 (by omega) HSB.out.l0 HVB.out (.slice A2 s.data.length c2) _).mono ?_;rintro e w4 ⟨rfl,hb4⟩;have HW4:=Lib.hid (HW3.out.step hb4);clear hb4;clear hc0 hc1 hc2 hc3 hc4 hc5 hc6 hc7 hc8 hc9 hc10 hf0 hf1 hf2 hf3 hf4 hf5 hf6 hf7 hf8 hf9 hf10;obtain ⟨hc0,hc1,hc2,hc3,hc4,hc5,hc6,hc7,hc8,hc9,hc10⟩:=cSall HW4.out.box;obtain ⟨hf0,hf1,hf2,hf3,hf4,hf5,hf6,hf7,hf8,hf9,hf10⟩:=fSall HW4.out.box)
 go_wp2_with (first | (go_at_call 30;refine (impl_crcBit.same _ _ _).mono ?_;rintro e w' ⟨rfl,rfl⟩))
 have HW6 : Hid (SbO w _ ({ s with run:=s.run + 1,crc:=crcI s.crc 1 } : SS) _):=Lib.hid ((HW4.out.put (setS2 HW4.out.box (s.run + 1)) rfl).put (setS4 (setS2 HW4.out.box (s.run + 1)) (crcI s.crc 1)) rfl)
 (refine (impl_Scan_plain.calls w.heap.size _ ({ s with run:=s.run + 1,crc:=crcI s.crc 1 } : SS) 1 (by omega) (fun k => w.heap.size + 1 < k) w _ HW6.out.toIn (Nat.le_refl _) (by (try simp only []);omega) HOK.out).mono ?_;intro e w5 hE;obtain ⟨v5,h7⟩:=HW6.out.ofEnd hE;have hret:=hE.ret;subst hret;clear hE)
 rw [HTT.out] at h7
 obtain ⟨A5,c5,rfl,hC5,hc5⟩:=h7.open_
 have HW7:=Lib.hid h7
 clear h7 hC5 hc5 HTT HW6 HE1 HOK
 clear hc0 hc1 hc2 hc3 hc4 hc5 hc6 hc7 hc8 hc9 hc10 hf0 hf1 hf2 hf3 hf4 hf5 hf6 hf7 hf8 hf9 hf10
 obtain ⟨hc0,hc1,hc2,hc3,hc4,hc5,hc6,hc7,hc8,hc9,hc10⟩:=cSall HW7.out.box
 obtain ⟨hf0,hf1,hf2,hf3,hf4,hf5,hf6,hf7,hf8,hf9,hf10⟩:=fSall HW7.out.box
 have tl0 : 1 ≤ T.left:=by have:=HTK.out;have:=HF.out;omega
 have tl1 : T.left ≤ 64:=by have:=HTK.out;have:=HF.out;omega
 have HW8:=Lib.hid (HW7.out.put (setS1 HW7.out.box (T.left - 1)) rfl)
 by_cases hL : T.left - 1 = 0
 ·have bL : (T.left - 1 == 0) = true:=beq_iff_eq.mpr hL
  have HL0:=Lib.hid hL
  have HSTEP : Hid (stepS T = enterS T (afterF T)):=Lib.hid (by unfold stepS;rw [if_pos hL])
  have HAR : Hid (1 ≤ afterF T ∧ afterF T ≤ 14):=Lib.hid (by have h1:=HTK.out;have h2:=HF.out;exact afterF_range (by omega) (by omega))
  have HAI : Hid (impl_fieldAfter.f T.field T.ext T.id T.rtr T.dlc T.data = some (afterF T)):=Lib.hid (by have h1:=HTK.out;have h2:=HF.out;exact afterI (by omega) (by omega))
  have HSI : Hid (impl_fieldSize.f (afterF T) T.ext T.id T.rtr T.dlc T.data = some (sizeF { T with field:=afterF T })):=Lib.hid (sizeI (s := { T with field:=afterF T }) HAR.out.1 HAR.out.2 HTD.out.1 HTD.out.2)
  generalize afterF T = AF at HSTEP HAR HAI HSI
  clear hL
  go_wp2_with (fail)
  (refine (impl_fieldAfter.calls T.field T.ext T.id T.rtr T.dlc A5 c5 T.data AF _ (Kd.R_reads' HW8.out.row).2.2 (Kd.R_reads' HW8.out.row).2.1 HAI.out (HG.out.next HW8.out.below)).mono ?_;rintro e w9 ⟨rfl,hb9⟩;have HW9:=Lib.hid (HW8.out.step hb9);clear hb9;clear hc0 hc1 hc2 hc3 hc4 hc5 hc6 hc7 hc8 hc9 hc10 hf0 hf1 hf2 hf3 hf4 hf5 hf6 hf7 hf8 hf9 hf10;obtain ⟨hc0,hc1,hc2,hc3,hc4,hc5,hc6,hc7,hc8,hc9,hc10⟩:=cSall HW9.out.box;obtain ⟨hf0,hf1,hf2,hf3,hf4,hf5,hf6,hf7,hf8,hf9,hf10⟩:=fSall HW9.out.box)
  have HW10:=Lib.hid (HW9.out.put (setS0 HW9.out.box AF) rfl)
  go_wp2_with (fail)
  (refine (impl_fieldSize.calls AF T.ext T.id T.rtr T.dlc A5 c5 T.data _ _ (Kd.R_reads' HW10.out.row).2.2 (Kd.R_reads' HW10.out.row).2.1 HSI.out (HG.out.next HW10.out.below)).mono ?_;rintro e w11 ⟨rfl,hb11⟩;have HW11:=Lib.hid (HW10.out.step hb11);clear hb11;clear hc0 hc1 hc2 hc3 hc4 hc5 hc6 hc7 hc8 hc9 hc10 hf0 hf1 hf2 hf3 hf4 hf5 hf6 hf7 hf8 hf9 hf10;obtain ⟨hc0,hc1,hc2,hc3,hc4,hc5,hc6,hc7,hc8,hc9,hc10⟩:=cSall HW11.out.box;obtain ⟨hf0,hf1,hf2,hf3,hf4,hf5,hf6,hf7,hf8,hf9,hf10⟩:=fSall HW11.out.box)
  generalize hSZ : sizeF { T with field:=AF } = SZ at HSI ⊢
  have HSZ:=Lib.hid hSZ
  clear hSZ
  have HW12:=Lib.hid (HW11.out.put (setS1 HW11.out.box SZ) rfl)
  by_cases h9 : AF = 9
  ·have b9 : (AF == 9) = true:=beq_iff_eq.mpr h9
   have HH9:=Lib.hid h9
   clear h9
   have hns:=HW12.out.nil
   have hsz12 : (w11.setCell ⟨w.heap.size,1,none⟩ (.int .i64 SZ)).heap.size = w11.heap.size:=by simp [World.setCell]
   rw [hsz12] at hns
   have HW13:=Lib.hid hns
   clear hns hsz12
   obtain ⟨hg0,hg1,hg2,hg3,hg4,hg5,hg6,hg7,hg8,hg9,hg10⟩:=cSall (blk_alloc HW12.out.box (.cells #[] 5))
   have hgf:=fS (blk_alloc HW12.out.box (.cells #[] 5)) 10
   go_wp2_with ((with_reducible refine gate_store (t:=31) (p:=4) rfl ?_);refine store_box rfl rfl rfl (g:=w.heap.size + 1) (j:=0) (cs := #[.int .i64 0, .int .i64 0, .int .i64 0, .int .i64 0, .int .i64 0, .int .i64 0, .bool false, .int .u32 0, .bool false, .int .i64 0, .slice none 0 0]) (cs' := #[.int .i64 AF, .int .i64 SZ, .int .i64 T.run, .int .i64 T.level, .int .i64 T.crc, .int .i64 T.acc, .bool T.ext, .int .u32 T.id, .bool T.rtr, .int .i64 T.dlc,(.slice (some ⟨w11.heap.size,0,none⟩) 0 0)]) (T:=31) (u := .agg #[.int .i64 AF, .int .i64 SZ, .int .i64 T.run, .int .i64 T.level, .int .i64 T.crc, .int .i64 T.acc, .bool T.ext, .int .u32 T.id, .bool T.rtr, .int .i64 T.dlc,(.slice (some ⟨w11.heap.size,0,none⟩) 0 0)]) (seg := [.int .i64 AF, .int .i64 SZ, .int .i64 T.run, .int .i64 T.level, .int .i64 T.crc, .int .i64 T.acc, .bool T.ext, .int .u32 T.id, .bool T.rtr, .int .i64 T.dlc,(.slice (some ⟨w11.heap.size,0,none⟩) 0 0)]) rfl rfl HW13.out.res rfl (by kernel_rfl) rfl rfl rfl ?_;intro wz hx hT;have HX:=Lib.hid hx;have HTZ:=Lib.hid hT;have HBz:=Lib.hid (hT.below HW13.out.below HW13.out.below.size (fun k hk => by omega));clear hx hT)
   refine bodyPost_ret (results_ct rfl _ _ (w.heap.size + 1) 31 #[.int .i64 AF, .int .i64 SZ, .int .i64 T.run, .int .i64 T.level, .int .i64 T.crc, .int .i64 T.acc, .bool T.ext, .int .u32 T.id, .bool T.rtr, .int .i64 T.dlc,(.slice (some ⟨w11.heap.size,0,none⟩) 0 0)] (0,0) _ rfl HX.out Tryd.underlying31 rfl (by kernel_rfl)) rfl ?_
   rw [HSTEP.out,show enterS T AF = { T with field:=AF,left:=SZ,data := [] } by unfold enterS;rw [if_pos HH9.out,HSZ.out]]
   exact ⟨_,rfl,Kd.R_mono (HTZ.out.R HW13.out.row (fun k hk e => by omega)) (fun _ _ => trivial),HBz.out⟩
  ·have b9 : (AF == 9) = false:=beq_eq_false_iff_ne.mpr h9
   have HH9:=Lib.hid h9
   clear h9
   go_wp2_with ((with_reducible refine gate_store (t:=31) (p:=4) rfl ?_);refine store_box rfl rfl rfl (g:=w.heap.size + 1) (j:=0) (cs := #[.int .i64 0, .int .i64 0, .int .i64 0, .int .i64 0, .int .i64 0, .int .i64 0, .bool false, .int .u32 0, .bool false, .int .i64 0, .slice none 0 0]) (cs' := #[.int .i64 AF, .int .i64 SZ, .int .i64 T.run, .int .i64 T.level, .int .i64 T.crc, .int .i64 T.acc, .bool T.ext, .int .u32 T.id, .bool T.rtr, .int .i64 T.dlc,(.slice A5 T.data.length c5)]) (T:=31) (u := .agg #[.int .i64 AF, .int .i64 SZ, .int .i64 T.run, .int .i64 T.level, .int .i64 T.crc, .int .i64 T.acc, .bool T.ext, .int .u32 T.id, .bool T.rtr, .int .i64 T.dlc,(.slice A5 T.data.length c5)]) (seg := [.int .i64 AF, .int .i64 SZ, .int .i64 T.run, .int .i64 T.level, .int .i64 T.crc, .int .i64 T.acc, .bool T.ext, .int .u32 T.id, .bool T.rtr, .int .i64 T.dlc,(.slice A5 T.data.length c5)]) rfl rfl HW12.out.res rfl (by kernel_rfl) rfl rfl rfl ?_;intro wz hx hT;have HX:=Lib.hid hx;have HTZ:=Lib.hid hT;have HBz:=Lib.hid (hT.below HW12.out.below HW12.out.below.size (fun k hk => by omega));clear hx hT)
   refine bodyPost_ret (results_ct rfl _ _ (w.heap.size + 1) 31 #[.int .i64 AF, .int .i64 SZ, .int .i64 T.run, .int .i64 T.level, .int .i64 T.crc, .int .i64 T.acc, .bool T.ext, .int .u32 T.id, .bool T.rtr, .int .i64 T.dlc,(.slice A5 T.data.length c5)] (0,0) _ rfl HX.out Tryd.underlying31 rfl (by kernel_rfl)) rfl ?_
   rw [HSTEP.out,show enterS T AF = { T with field:=AF,left:=SZ } by unfold enterS;rw [if_neg HH9.out,HSZ.out]]
   exact ⟨_,rfl,Kd.R_mono (HTZ.out.R HW12.out.row (fun k hk e => by omega)) (fun _ _ => trivial),HBz.out⟩
 ·have bL : (T.left - 1 == 0) = false:=beq_eq_false_iff_ne.mpr hL
  have HL0:=Lib.hid hL
  have HSTEP : Hid (stepS T = { T with left:=T.left - 1 }):=Lib.hid (by unfold stepS;rw [if_neg hL])
  clear hL
  go_wp2_with ((with_reducible refine gate_store (t:=31) (p:=4) rfl ?_);refine store_box rfl rfl rfl (g:=w.heap.size + 1) (j:=0) (cs := #[.int .i64 0, .int .i64 0, .int .i64 0, .int .i64 0, .int .i64 0, .int .i64 0, .bool false, .int .u32 0, .bool false, .int .i64 0, .slice none 0 0]) (cs' := #[.int .i64 T.field, .int .i64 (T.left - 1), .int .i64 T.run, .int .i64 T.level, .int .i64 T.crc, .int .i64 T.acc, .bool T.ext, .int .u32 T.id, .bool T.rtr, .int .i64 T.dlc,(.slice A5 T.data.length c5)]) (T:=31) (u := .agg #[.int .i64 T.field, .int .i64 (T.left - 1), .int .i64 T.run, .int .i64 T.level, .int .i64 T.crc, .int .i64 T.acc, .bool T.ext, .int .u32 T.id, .bool T.rtr, .int .i64 T.dlc,(.slice A5 T.data.length c5)]) (seg := [.int .i64 T.field, .int .i64 (T.left - 1), .int .i64 T.run, .int .i64 T.level, .int .i64 T.crc, .int .i64 T.acc, .bool T.ext, .int .u32 T.id, .bool T.rtr, .int .i64 T.dlc,(.slice A5 T.data.length c5)]) rfl rfl HW8.out.res rfl (by kernel_rfl) rfl rfl rfl ?_;intro wz hx hT;have HX:=Lib.hid hx;have HTZ:=Lib.hid hT;have HBz:=Lib.hid (hT.below HW8.out.below HW8.out.below.size (fun k hk => by omega));clear hx hT)
  refine bodyPost_ret (results_ct rfl _ _ (w.heap.size + 1) 31 #[.int .i64 T.field, .int .i64 (T.left - 1), .int .i64 T.run, .int .i64 T.level, .int .i64 T.crc, .int .i64 T.acc, .bool T.ext, .int .u32 T.id, .bool T.rtr, .int .i64 T.dlc,(.slice A5 T.data.length c5)] (0,0) _ rfl HX.out Tryd.underlying31 rfl (by kernel_rfl)) rfl ?_
  rw [HSTEP.out]
  exact ⟨_,rfl,Kd.R_mono (HTZ.out.R HW8.out.row (fun k hk e => by omega)) (fun _ _ => trivial),HBz.out⟩
set_option maxHeartbeats 1000000 in
set_option maxRecDepth 100000 in
theorem scan_same_0_0 (w : World) (s : SS) (A : Option Addr) (c : Nat) (hr : Kd.C (Kd.int .u8) w A s.data.length s.data) (hc : s.data.length ≤ c) (hG : LaidRows w) (hs : Sound s) (i0 : 0 ≤ s.id) (hby : ∀ x ∈ s.data,0 ≤ x ∧ x < 256) (h5 : s.run ≠ 5) (hv : verdictV s 0 = 0) (hlim : s.field = 14 → s.left ≠ 1) (hq : s.field ≤ 10) (hr0 : 0 < s.run) (hlv : s.level = 0) (hcr : s.field = 10) :
  Calls Tryd.prog 8 #[.agg #[.int .i64 s.field, .int .i64 s.left, .int .i64 s.run, .int .i64 s.level, .int .i64 s.crc, .int .i64 s.acc, .bool s.ext, .int .u32 s.id, .bool s.rtr, .int .i64 s.dlc,(.slice A s.data.length c)], .int .i64 0] w fun e w' => ∃ v : Value,e = .returned (.tuple #[.agg #[.int .i64 (stepS (takeS (crcT (runS s 0) 0) 0)).field, .int .i64 (stepS (takeS (crcT (runS s 0) 0) 0)).left, .int .i64 (stepS (takeS (crcT (runS s 0) 0) 0)).run, .int .i64 (stepS (takeS (crcT (runS s 0) 0) 0)).level, .int .i64 (stepS (takeS (crcT (runS s 0) 0) 0)).crc, .int .i64 (stepS (takeS (crcT (runS s 0) 0) 0)).acc, .bool (stepS (takeS (crcT (runS s 0) 0) 0)).ext, .int .u32 (stepS (takeS (crcT (runS s 0) 0) 0)).id, .bool (stepS (takeS (crcT (runS s 0) 0) 0)).rtr, .int .i64 (stepS (takeS (crcT (runS s 0) 0) 0)).dlc,v], .int .i64 0]) ∧ Kd.R (Kd.int .u8) 5 w' w.heap.size (fun _ => True) v (stepS (takeS (crcT (runS s 0) 0) 0)).data ∧ Below w.heap.size w w':=by
 have HR:=Lib.hid hr
 have HC:=Lib.hid hc
 have HG:=Lib.hid hG
 clear hr hc hG
 have HS:=Lib.hid hs
 have HCP : Hid (impl_copyFrame.f s.ext s.id s.rtr s.dlc s.data = some (s.ext,s.id,s.rtr,s.dlc,s.data)):=Lib.hid (copy_eq (by have:=hs.dl;omega))
 have HSB : Hid (Sound s):=Lib.hid hs
 have HVB : Hid (verdictV s 0 = 0):=Lib.hid hv
 have b5 : (s.run == 5) = false:=beq_eq_false_iff_ne.mpr h5
 have r0:=hs.r0
 have r1:=hs.r1
 have f0:=hs.f0
 have bl : (s.level == 0) = true:=beq_iff_eq.mpr hlv
 have HE1 : Hid (crcT (runS s 0) 0 = ({ s with run:=s.run + 1 } : SS)):=Lib.hid (by rw [show runS s 0 = ({ s with run:=s.run + 1 } : SS) by unfold runS;rw [if_neg (by omega),if_pos ⟨hr0,hlv⟩]];unfold crcT;rw [if_neg (show ¬ s.field ≤ 9 by omega)])
 have HOK : Hid (SOk ({ s with run:=s.run + 1 } : SS)):=Lib.hid (by have h:=hs.ok i0 hby;exact ⟨h.f0,h.f1,h.l0,h.l1,h.d0,h.d1,h.i0,h.i1,h.a0,h.a1,h.ne,h.by_,h.dl⟩)
 have HTK : Hid ((takeS ({ s with run:=s.run + 1 } : SS) 0).field = s.field ∧ (takeS ({ s with run:=s.run + 1 } : SS) 0).left = s.left):=Lib.hid (takeS_keep _ _)
 have HTD : Hid (0 ≤ (takeS ({ s with run:=s.run + 1 } : SS) 0).dlc ∧ (takeS ({ s with run:=s.run + 1 } : SS) 0).dlc ≤ 15):=Lib.hid (takeS_dlc (s := { s with run:=s.run + 1 }) hs.d0 hs.d1 _)
 have HF : Hid (1 ≤ s.field ∧ s.field ≤ 14 ∧ 1 ≤ s.left ∧ s.left ≤ 64 ∧ (s.field = 14 → s.left ≠ 1)):=Lib.hid ⟨hs.f0,hs.f1,hs.l0,by have:=(sizeF_le hs.f0 hs.f1 hs.d0).2;have:=hs.l1;omega,hlim⟩
 have h4 : s.run ≤ 4:=by omega
 have hcr2 : 10 ≤ s.field:=by omega
 clear hcr
 clear hs i0 hby h5 hv hlim hlv
 rw [HE1.out]
 generalize hTT : takeS ({ s with run:=s.run + 1 } : SS) 0 = T at HTK HTD ⊢
 have HTT:=Lib.hid hTT
 clear hTT
 go_enter Tryd.func8,Tryd.ntmps8
 go_wp2_with (fail)
 (refine (sound_yes s HSB.out A c _ (Kd.C_alloc (Kd.C_alloc HR.out _) _) HC.out (HG.out.alloc _ |>.alloc _)).mono ?_;rintro e w1 ⟨rfl,hb1⟩;have HW1:=Lib.hid ((SbIn.start w s (.slice A s.data.length c)).step hb1);clear hb1)
 have hx6:=cS6 HW1.out.box
 have hx7:=cS7 HW1.out.box
 have hx8:=cS8 HW1.out.box
 have hx9:=cS9 HW1.out.box
 have hx10:=cS10 HW1.out.box
 go_wp2_with (fail)
 clear hx6 hx7 hx8 hx9 hx10
 (refine (impl_copyFrame.calls s.ext s.id s.rtr s.dlc A c s.data s.ext s.id s.rtr s.dlc s.data _ (Kd.C_below HR.out HW1.out.below) HC.out HCP.out).mono ?_;rintro e w2 ⟨v2,rfl,hr2,hb2⟩;obtain ⟨A2,c2,rfl⟩:=Kd.R_slice hr2;have HR2:=Lib.hid hr2;have HB2:=Lib.hid hb2;have HW2:=Lib.hid (HW1.out.step hb2);clear hr2 hb2)
 go_wp2_with ((with_reducible refine gate_store (t:=29) (p:=22) rfl ?_);refine store_box rfl rfl rfl (g:=w.heap.size) (j:=6) (cs := #[.int .i64 s.field, .int .i64 s.left, .int .i64 s.run, .int .i64 s.level, .int .i64 s.crc, .int .i64 s.acc, .bool s.ext, .int .u32 s.id, .bool s.rtr, .int .i64 s.dlc,(.slice A s.data.length c)]) (cs' := #[.int .i64 s.field, .int .i64 s.left, .int .i64 s.run, .int .i64 s.level, .int .i64 s.crc, .int .i64 s.acc, .bool s.ext, .int .u32 s.id, .bool s.rtr, .int .i64 s.dlc,(.slice A2 s.data.length c2)]) (T:=31) (u := .agg #[.bool s.ext, .int .u32 s.id, .bool s.rtr, .int .i64 s.dlc,(.slice A2 s.data.length c2)]) (seg := [.bool s.ext, .int .u32 s.id, .bool s.rtr, .int .i64 s.dlc,(.slice A2 s.data.length c2)]) rfl rfl HW2.out.box rfl (by kernel_rfl) rfl rfl rfl ?_;intro w3 hx hT;have HW3:=Lib.hid (SbO.ofCopy HW1.out HB2.out HR2.out hx hT);clear hx hT;obtain ⟨hc0,hc1,hc2,hc3,hc4,hc5,hc6,hc7,hc8,hc9,hc10⟩:=cSall HW3.out.box;obtain ⟨hf0,hf1,hf2,hf3,hf4,hf5,hf6,hf7,hf8,hf9,hf10⟩:=fSall HW3.out.box)
 (refine (verdict_run s 0 0 (by omega) HSB.out.l0 HVB.out (.slice A2 s.data.length c2) _).mono ?_;rintro e w4 ⟨rfl,hb4⟩;have HW4:=Lib.hid (HW3.out.step hb4);clear hb4;clear hc0 hc1 hc2 hc3 hc4 hc5 hc6 hc7 hc8 hc9 hc10 hf0 hf1 hf2 hf3 hf4 hf5 hf6 hf7 hf8 hf9 hf10;obtain ⟨hc0,hc1,hc2,hc3,hc4,hc5,hc6,hc7,hc8,hc9,hc10⟩:=cSall HW4.out.box;obtain ⟨hf0,hf1,hf2,hf3,hf4,hf5,hf6,hf7,hf8,hf9,hf10⟩:=fSall HW4.out.box)
 go_wp2_with (fail)
 have HW6 : Hid (SbO w _ ({ s with run:=s.run + 1 } : SS) _):=Lib.hid (HW4.out.put (setS2 HW4.out.box (s.run + 1)) rfl)
 (refine (impl_Scan_plain.calls w.heap.size _ ({ s with run:=s.run + 1 } : SS) 0 (by omega) (fun k => w.heap.size + 1 < k) w _ HW6.out.toIn (Nat.le_refl _) (by (try simp only []);omega) HOK.out).mono ?_;intro e w5 hE;obtain ⟨v5,h7⟩:=HW6.out.ofEnd hE;have hret:=hE.ret;subst hret;clear hE)
 rw [HTT.out] at h7
 obtain ⟨A5,c5,rfl,hC5,hc5⟩:=h7.open_
 have HW7:=Lib.hid h7
 clear h7 hC5 hc5 HTT HW6 HE1 HOK
 clear hc0 hc1 hc2 hc3 hc4 hc5 hc6 hc7 hc8 hc9 hc10 hf0 hf1 hf2 hf3 hf4 hf5 hf6 hf7 hf8 hf9 hf10
 obtain ⟨hc0,hc1,hc2,hc3,hc4,hc5,hc6,hc7,hc8,hc9,hc10⟩:=cSall HW7.out.box
 obtain ⟨hf0,hf1,hf2,hf3,hf4,hf5,hf6,hf7,hf8,hf9,hf10⟩:=fSall HW7.out.box
 have tl0 : 1 ≤ T.left:=by have:=HTK.out;have:=HF.out;omega
 have tl1 : T.left ≤ 64:=by have:=HTK.out;have:=HF.out;omega
 have HW8:=Lib.hid (HW7.out.put (setS1 HW7.out.box (T.left - 1)) rfl)
 by_cases hL : T.left - 1 = 0
 ·have bL : (T.left - 1 == 0) = true:=beq_iff_eq.mpr hL
  have HL0:=Lib.hid hL
  have HSTEP : Hid (stepS T = enterS T (afterF T)):=Lib.hid (by unfold stepS;rw [if_pos hL])
  have HAR : Hid (1 ≤ afterF T ∧ afterF T ≤ 14):=Lib.hid (by have h1:=HTK.out;have h2:=HF.out;exact afterF_range (by omega) (by omega))
  have HAI : Hid (impl_fieldAfter.f T.field T.ext T.id T.rtr T.dlc T.data = some (afterF T)):=Lib.hid (by have h1:=HTK.out;have h2:=HF.out;exact afterI (by omega) (by omega))
  have HSI : Hid (impl_fieldSize.f (afterF T) T.ext T.id T.rtr T.dlc T.data = some (sizeF { T with field:=afterF T })):=Lib.hid (sizeI (s := { T with field:=afterF T }) HAR.out.1 HAR.out.2 HTD.out.1 HTD.out.2)
  generalize afterF T = AF at HSTEP HAR HAI HSI
  clear hL
  go_wp2_with (fail)
  (refine (impl_fieldAfter.calls T.field T.ext T.id T.rtr T.dlc A5 c5 T.data AF _ (Kd.R_reads' HW8.out.row).2.2 (Kd.R_reads' HW8.out.row).2.1 HAI.out (HG.out.next HW8.out.below)).mono ?_;rintro e w9 ⟨rfl,hb9⟩;have HW9:=Lib.hid (HW8.out.step hb9);clear hb9;clear hc0 hc1 hc2 hc3 hc4 hc5 hc6 hc7 hc8 hc9 hc10 hf0 hf1 hf2 hf3 hf4 hf5 hf6 hf7 hf8 hf9 hf10;obtain ⟨hc0,hc1,hc2,hc3,hc4,hc5,hc6,hc7,hc8,hc9,hc10⟩:=cSall HW9.out.box;obtain ⟨hf0,hf1,hf2,hf3,hf4,hf5,hf6,hf7,hf8,hf9,hf10⟩:=fSall HW9.out.box)
  have HW10:=Lib.hid (HW9.out.put (setS0 HW9.out.box AF) rfl)
  go_wp2_with (fail)
  (refine (impl_fieldSize.calls AF T.ext T.id T.rtr T.dlc A5 c5 T.data _ _ (Kd.R_reads' HW10.out.row).2.2 (Kd.R_reads' HW10.out.row).2.1 HSI.out (HG.out.next HW10.out.below)).mono ?_;rintro e w11 ⟨rfl,hb11⟩;have HW11:=Lib.hid (HW10.out.step hb11);clear hb11;clear hc0 hc1 hc2 hc3 hc4 hc5 hc6 hc7 hc8 hc9 hc10 hf0 hf1 hf2 hf3 hf4 hf5 hf6 hf7 hf8 hf9 hf10;obtain ⟨hc0,hc1,hc2,hc3,hc4,hc5,hc6,hc7,hc8,hc9,hc10⟩:=cSall HW11.out.box;obtain ⟨hf0,hf1,hf2,hf3,hf4,hf5,hf6,hf7,hf8,hf9,hf10⟩:=fSall HW11.out.box)
  generalize hSZ : sizeF { T with field:=AF } = SZ at HSI ⊢
  have HSZ:=Lib.hid hSZ
  clear hSZ
  have HW12:=Lib.hid (HW11.out.put (setS1 HW11.out.box SZ) rfl)
  by_cases h9 : AF = 9
  ·have b9 : (AF == 9) = true:=beq_iff_eq.mpr h9
   have HH9:=Lib.hid h9
   clear h9
   have hns:=HW12.out.nil
   have hsz12 : (w11.setCell ⟨w.heap.size,1,none⟩ (.int .i64 SZ)).heap.size = w11.heap.size:=by simp [World.setCell]
   rw [hsz12] at hns
   have HW13:=Lib.hid hns
   clear hns hsz12
   obtain ⟨hg0,hg1,hg2,hg3,hg4,hg5,hg6,hg7,hg8,hg9,hg10⟩:=cSall (blk_alloc HW12.out.box (.cells #[] 5))
   have hgf:=fS (blk_alloc HW12.out.box (.cells #[] 5)) 10
   go_wp2_with ((with_reducible refine gate_store (t:=31) (p:=4) rfl ?_);refine store_box rfl rfl rfl (g:=w.heap.size + 1) (j:=0) (cs := #[.int .i64 0, .int .i64 0, .int .i64 0, .int .i64 0, .int .i64 0, .int .i64 0, .bool false, .int .u32 0, .bool false, .int .i64 0, .slice none 0 0]) (cs' := #[.int .i64 AF, .int .i64 SZ, .int .i64 T.run, .int .i64 T.level, .int .i64 T.crc, .int .i64 T.acc, .bool T.ext, .int .u32 T.id, .bool T.rtr, .int .i64 T.dlc,(.slice (some ⟨w11.heap.size,0,none⟩) 0 0)]) (T:=31) (u := .agg #[.int .i64 AF, .int .i64 SZ, .int .i64 T.run, .int .i64 T.level, .int .i64 T.crc, .int .i64 T.acc, .bool T.ext, .int .u32 T.id, .bool T.rtr, .int .i64 T.dlc,(.slice (some ⟨w11.heap.size,0,none⟩) 0 0)]) (seg := [.int .i64 AF, .int .i64 SZ, .int .i64 T.run, .int .i64 T.level, .int .i64 T.crc, .int .i64 T.acc, .bool T.ext, .int .u32 T.id, .bool T.rtr, .int .i64 T.dlc,(.slice (some ⟨w11.heap.size,0,none⟩) 0 0)]) rfl rfl HW13.out.res rfl (by kernel_rfl) rfl rfl rfl ?_;intro wz hx hT;have HX:=Lib.hid hx;have HTZ:=Lib.hid hT;have HBz:=Lib.hid (hT.below HW13.out.below HW13.out.below.size (fun k hk => by omega));clear hx hT)
   refine bodyPost_ret (results_ct rfl _ _ (w.heap.size + 1) 31 #[.int .i64 AF, .int .i64 SZ, .int .i64 T.run, .int .i64 T.level, .int .i64 T.crc, .int .i64 T.acc, .bool T.ext, .int .u32 T.id, .bool T.rtr, .int .i64 T.dlc,(.slice (some ⟨w11.heap.size,0,none⟩) 0 0)] (0,0) _ rfl HX.out Tryd.underlying31 rfl (by kernel_rfl)) rfl ?_
   rw [HSTEP.out,show enterS T AF = { T with field:=AF,left:=SZ,data := [] } by unfold enterS;rw [if_pos HH9.out,HSZ.out]]
   exact ⟨_,rfl,Kd.R_mono (HTZ.out.R HW13.out.row (fun k hk e => by omega)) (fun _ _ => trivial),HBz.out⟩
  ·have b9 : (AF == 9) = false:=beq_eq_false_iff_ne.mpr h9
   have HH9:=Lib.hid h9
   clear h9
   go_wp2_with ((with_reducible refine gate_store (t:=31) (p:=4) rfl ?_);refine store_box rfl rfl rfl (g:=w.heap.size + 1) (j:=0) (cs := #[.int .i64 0, .int .i64 0, .int .i64 0, .int .i64 0, .int .i64 0, .int .i64 0, .bool false, .int .u32 0, .bool false, .int .i64 0, .slice none 0 0]) (cs' := #[.int .i64 AF, .int .i64 SZ, .int .i64 T.run, .int .i64 T.level, .int .i64 T.crc, .int .i64 T.acc, .bool T.ext, .int .u32 T.id, .bool T.rtr, .int .i64 T.dlc,(.slice A5 T.data.length c5)]) (T:=31) (u := .agg #[.int .i64 AF, .int .i64 SZ, .int .i64 T.run, .int .i64 T.level, .int .i64 T.crc, .int .i64 T.acc, .bool T.ext, .int .u32 T.id, .bool T.rtr, .int .i64 T.dlc,(.slice A5 T.data.length c5)]) (seg := [.int .i64 AF, .int .i64 SZ, .int .i64 T.run, .int .i64 T.level, .int .i64 T.crc, .int .i64 T.acc, .bool T.ext, .int .u32 T.id, .bool T.rtr, .int .i64 T.dlc,(.slice A5 T.data.length c5)]) rfl rfl HW12.out.res rfl (by kernel_rfl) rfl rfl rfl ?_;intro wz hx hT;have HX:=Lib.hid hx;have HTZ:=Lib.hid hT;have HBz:=Lib.hid (hT.below HW12.out.below HW12.out.below.size (fun k hk => by omega));clear hx hT)
   refine bodyPost_ret (results_ct rfl _ _ (w.heap.size + 1) 31 #[.int .i64 AF, .int .i64 SZ, .int .i64 T.run, .int .i64 T.level, .int .i64 T.crc, .int .i64 T.acc, .bool T.ext, .int .u32 T.id, .bool T.rtr, .int .i64 T.dlc,(.slice A5 T.data.length c5)] (0,0) _ rfl HX.out Tryd.underlying31 rfl (by kernel_rfl)) rfl ?_
   rw [HSTEP.out,show enterS T AF = { T with field:=AF,left:=SZ } by unfold enterS;rw [if_neg HH9.out,HSZ.out]]
   exact ⟨_,rfl,Kd.R_mono (HTZ.out.R HW12.out.row (fun k hk e => by omega)) (fun _ _ => trivial),HBz.out⟩
 ·have bL : (T.left - 1 == 0) = false:=beq_eq_false_iff_ne.mpr hL
  have HL0:=Lib.hid hL
  have HSTEP : Hid (stepS T = { T with left:=T.left - 1 }):=Lib.hid (by unfold stepS;rw [if_neg hL])
  clear hL
  go_wp2_with ((with_reducible refine gate_store (t:=31) (p:=4) rfl ?_);refine store_box rfl rfl rfl (g:=w.heap.size + 1) (j:=0) (cs := #[.int .i64 0, .int .i64 0, .int .i64 0, .int .i64 0, .int .i64 0, .int .i64 0, .bool false, .int .u32 0, .bool false, .int .i64 0, .slice none 0 0]) (cs' := #[.int .i64 T.field, .int .i64 (T.left - 1), .int .i64 T.run, .int .i64 T.level, .int .i64 T.crc, .int .i64 T.acc, .bool T.ext, .int .u32 T.id, .bool T.rtr, .int .i64 T.dlc,(.slice A5 T.data.length c5)]) (T:=31) (u := .agg #[.int .i64 T.field, .int .i64 (T.left - 1), .int .i64 T.run, .int .i64 T.level, .int .i64 T.crc, .int .i64 T.acc, .bool T.ext, .int .u32 T.id, .bool T.rtr, .int .i64 T.dlc,(.slice A5 T.data.length c5)]) (seg := [.int .i64 T.field, .int .i64 (T.left - 1), .int .i64 T.run, .int .i64 T.level, .int .i64 T.crc, .int .i64 T.acc, .bool T.ext, .int .u32 T.id, .bool T.rtr, .int .i64 T.dlc,(.slice A5 T.data.length c5)]) rfl rfl HW8.out.res rfl (by kernel_rfl) rfl rfl rfl ?_;intro wz hx hT;have HX:=Lib.hid hx;have HTZ:=Lib.hid hT;have HBz:=Lib.hid (hT.below HW8.out.below HW8.out.below.size (fun k hk => by omega));clear hx hT)
  refine bodyPost_ret (results_ct rfl _ _ (w.heap.size + 1) 31 #[.int .i64 T.field, .int .i64 (T.left - 1), .int .i64 T.run, .int .i64 T.level, .int .i64 T.crc, .int .i64 T.acc, .bool T.ext, .int .u32 T.id, .bool T.rtr, .int .i64 T.dlc,(.slice A5 T.data.length c5)] (0,0) _ rfl HX.out Tryd.underlying31 rfl (by kernel_rfl)) rfl ?_
  rw [HSTEP.out]
  exact ⟨_,rfl,Kd.R_mono (HTZ.out.R HW8.out.row (fun k hk e => by omega)) (fun _ _ => trivial),HBz.out⟩
set_option maxHeartbeats 1000000 in
set_option maxRecDepth 100000 in
theorem scan_same_1_0 (w : World) (s : SS) (A : Option Addr) (c : Nat) (hr : Kd.C (Kd.int .u8) w A s.data.length s.data) (hc : s.data.length ≤ c) (hG : LaidRows w) (hs : Sound s) (i0 : 0 ≤ s.id) (hby : ∀ x ∈ s.data,0 ≤ x ∧ x < 256) (h5 : s.run ≠ 5) (hv : verdictV s 1 = 0) (hlim : s.field = 14 → s.left ≠ 1) (hq : s.field ≤ 10) (hr0 : 0 < s.run) (hlv : s.level = 1) (hcr : s.field = 10) :
  Calls Tryd.prog 8 #[.agg #[.int .i64 s.field, .int .i64 s.left, .int .i64 s.run, .int .i64 s.level, .int .i64 s.crc, .int .i64 s.acc, .bool s.ext, .int .u32 s.id, .bool s.rtr, .int .i64 s.dlc,(.slice A s.data.length c)], .int .i64 1] w fun e w' => ∃ v : Value,e = .returned (.tuple #[.agg #[.int .i64 (stepS (takeS (crcT (runS s 1) 1) 1)).field, .int .i64 (stepS (takeS (crcT (runS s 1) 1) 1)).left, .int .i64 (stepS (takeS (crcT (runS s 1) 1) 1)).run, .int .i64 (stepS (takeS (crcT (runS s 1) 1) 1)).level, .int .i64 (stepS (takeS (crcT (runS s 1) 1) 1)).crc, .int .i64 (stepS (takeS (crcT (runS s 1) 1) 1)).acc, .bool (stepS (takeS (crcT (runS s 1) 1) 1)).ext, .int .u32 (stepS (takeS (crcT (runS s 1) 1) 1)).id, .bool (stepS (takeS (crcT (runS s 1) 1) 1)).rtr, .int .i64 (stepS (takeS (crcT (runS s 1) 1) 1)).dlc,v], .int .i64 0]) ∧ Kd.R (Kd.int .u8) 5 w' w.heap.size (fun _ => True) v (stepS (takeS (crcT (runS s 1) 1) 1)).data ∧ Below w.heap.size w w':=by
 have HR:=Lib.hid hr
 have HC:=Lib.hid hc
 have HG:=Lib.hid hG
 clear hr hc hG
 have HS:=Lib.hid hs
 have HCP : Hid (impl_copyFrame.f s.ext s.id s.rtr s.dlc s.data = some (s.ext,s.id,s.rtr,s.dlc,s.data)):=Lib.hid (copy_eq (by have:=hs.dl;omega))
 have HSB : Hid (Sound s):=Lib.hid hs
 have HVB : Hid (verdictV s 1 = 0):=Lib.hid hv
 have b5 : (s.run == 5) = false:=beq_eq_false_iff_ne.mpr h5
 have r0:=hs.r0
 have r1:=hs.r1
 have f0:=hs.f0
 have bl : (s.level == 1) = true:=beq_iff_eq.mpr hlv
 have HE1 : Hid (crcT (runS s 1) 1 = ({ s with run:=s.run + 1 } : SS)):=Lib.hid (by rw [show runS s 1 = ({ s with run:=s.run + 1 } : SS) by unfold runS;rw [if_neg (by omega),if_pos ⟨hr0,hlv⟩]];unfold crcT;rw [if_neg (show ¬ s.field ≤ 9 by omega)])
 have HOK : Hid (SOk ({ s with run:=s.run + 1 } : SS)):=Lib.hid (by have h:=hs.ok i0 hby;exact ⟨h.f0,h.f1,h.l0,h.l1,h.d0,h.d1,h.i0,h.i1,h.a0,h.a1,h.ne,h.by_,h.dl⟩)
 have HTK : Hid ((takeS ({ s with run:=s.run + 1 } : SS) 1).field = s.field ∧ (takeS ({ s with run:=s.run + 1 } : SS) 1).left = s.left):=Lib.hid (takeS_keep _ _)
 have HTD : Hid (0 ≤ (takeS ({ s with run:=s.run + 1 } : SS) 1).dlc ∧ (takeS ({ s with run:=s.run + 1 } : SS) 1).dlc ≤ 15):=Lib.hid (takeS_dlc (s := { s with run:=s.run + 1 }) hs.d0 hs.d1 _)
 have HF : Hid (1 ≤ s.field ∧ s.field ≤ 14 ∧ 1 ≤ s.left ∧ s.left ≤ 64 ∧ (s.field = 14 → s.left ≠ 1)):=Lib.hid ⟨hs.f0,hs.f1,hs.l0,by have:=(sizeF_le hs.f0 hs.f1 hs.d0).2;have:=hs.l1;omega,hlim⟩
 have h4 : s.run ≤ 4:=by omega
 have hcr2 : 10 ≤ s.field:=by omega
 clear hcr
 clear hs i0 hby h5 hv hlim hlv
 rw [HE1.out]
 generalize hTT : takeS ({ s with run:=s.run + 1 } : SS) 1 = T at HTK HTD ⊢
 have HTT:=Lib.hid hTT
 clear hTT
 go_enter Tryd.func8,Tryd.ntmps8
 go_wp2_with (fail)
 (refine (sound_yes s HSB.out A c _ (Kd.C_alloc (Kd.C_alloc HR.out _) _) HC.out (HG.out.alloc _ |>.alloc _)).mono ?_;rintro e w1 ⟨rfl,hb1⟩;have HW1:=Lib.hid ((SbIn.start w s (.slice A s.data.length c)).step hb1);clear hb1)
 have hx6:=cS6 HW1.out.box
 have hx7:=cS7 HW1.out.box
 have hx8:=cS8 HW1.out.box
 have hx9:=cS9 HW1.out.box
 have hx10:=cS10 HW1.out.box
 go_wp2_with (fail)
 clear hx6 hx7 hx8 hx9 hx10
 (refine (impl_copyFrame.calls s.ext s.id s.rtr s.dlc A c s.data s.ext s.id s.rtr s.dlc s.data _ (Kd.C_below HR.out HW1.out.below) HC.out HCP.out).mono ?_;rintro e w2 ⟨v2,rfl,hr2,hb2⟩;obtain ⟨A2,c2,rfl⟩:=Kd.R_slice hr2;have HR2:=Lib.hid hr2;have HB2:=Lib.hid hb2;have HW2:=Lib.hid (HW1.out.step hb2);clear hr2 hb2)
 go_wp2_with ((with_reducible refine gate_store (t:=29) (p:=22) rfl ?_);refine store_box rfl rfl rfl (g:=w.heap.size) (j:=6) (cs := #[.int .i64 s.field, .int .i64 s.left, .int .i64 s.run, .int .i64 s.level, .int .i64 s.crc, .int .i64 s.acc, .bool s.ext, .int .u32 s.id, .bool s.rtr, .int .i64 s.dlc,(.slice A s.data.length c)]) (cs' := #[.int .i64 s.field, .int .i64 s.left, .int .i64 s.run, .int .i64 s.level, .int .i64 s.crc, .int .i64 s.acc, .bool s.ext, .int .u32 s.id, .bool s.rtr, .int .i64 s.dlc,(.slice A2 s.data.length c2)]) (T:=31) (u := .agg #[.bool s.ext, .int .u32 s.id, .bool s.rtr, .int .i64 s.dlc,(.slice A2 s.data.length c2)]) (seg := [.bool s.ext, .int .u32 s.id, .bool s.rtr, .int .i64 s.dlc,(.slice A2 s.data.length c2)]) rfl rfl HW2.out.box rfl (by kernel_rfl) rfl rfl rfl ?_;intro w3 hx hT;have HW3:=Lib.hid (SbO.ofCopy HW1.out HB2.out HR2.out hx hT);clear hx hT;obtain ⟨hc0,hc1,hc2,hc3,hc4,hc5,hc6,hc7,hc8,hc9,hc10⟩:=cSall HW3.out.box;obtain ⟨hf0,hf1,hf2,hf3,hf4,hf5,hf6,hf7,hf8,hf9,hf10⟩:=fSall HW3.out.box)
 (refine (verdict_run s 1 0 (by omega) HSB.out.l0 HVB.out (.slice A2 s.data.length c2) _).mono ?_;rintro e w4 ⟨rfl,hb4⟩;have HW4:=Lib.hid (HW3.out.step hb4);clear hb4;clear hc0 hc1 hc2 hc3 hc4 hc5 hc6 hc7 hc8 hc9 hc10 hf0 hf1 hf2 hf3 hf4 hf5 hf6 hf7 hf8 hf9 hf10;obtain ⟨hc0,hc1,hc2,hc3,hc4,hc5,hc6,hc7,hc8,hc9,hc10⟩:=cSall HW4.out.box;obtain ⟨hf0,hf1,hf2,hf3,hf4,hf5,hf6,hf7,hf8,hf9,hf10⟩:=fSall HW4.out.box)
 go_wp2_with (fail)
 have HW6 : Hid (SbO w _ ({ s with run:=s.run + 1 } : SS) _):=Lib.hid (HW4.out.put (setS2 HW4.out.box (s.run + 1)) rfl)
 (refine (impl_Scan_plain.calls w.heap.size _ ({ s with run:=s.run + 1 } : SS) 1 (by omega) (fun k => w.heap.size + 1 < k) w _ HW6.out.toIn (Nat.le_refl _) (by (try simp only []);omega) HOK.out).mono ?_;intro e w5 hE;obtain ⟨v5,h7⟩:=HW6.out.ofEnd hE;have hret:=hE.ret;subst hret;clear hE)
 rw [HTT.out] at h7
 obtain ⟨A5,c5,rfl,hC5,hc5⟩:=h7.open_
 have HW7:=Lib.hid h7
 clear h7 hC5 hc5 HTT HW6 HE1 HOK
 clear hc0 hc1 hc2 hc3 hc4 hc5 hc6 hc7 hc8 hc9 hc10 hf0 hf1 hf2 hf3 hf4 hf5 hf6 hf7 hf8 hf9 hf10
 obtain ⟨hc0,hc1,hc2,hc3,hc4,hc5,hc6,hc7,hc8,hc9,hc10⟩:=cSall HW7.out.box
 obtain ⟨hf0,hf1,hf2,hf3,hf4,hf5,hf6,hf7,hf8,hf9,hf10⟩:=fSall HW7.out.box
 have tl0 : 1 ≤ T.left:=by have:=HTK.out;have:=HF.out;omega
 have tl1 : T.left ≤ 64:=by have:=HTK.out;have:=HF.out;omega
 have HW8:=Lib.hid (HW7.out.put (setS1 HW7.out.box (T.left - 1)) rfl)
 by_cases hL : T.left - 1 = 0
 ·have bL : (T.left - 1 == 0) = true:=beq_iff_eq.mpr hL
  have HL0:=Lib.hid hL
  have HSTEP : Hid (stepS T = enterS T (afterF T)):=Lib.hid (by unfold stepS;rw [if_pos hL])
  have HAR : Hid (1 ≤ afterF T ∧ afterF T ≤ 14):=Lib.hid (by have h1:=HTK.out;have h2:=HF.out;exact afterF_range (by omega) (by omega))
  have HAI : Hid (impl_fieldAfter.f T.field T.ext T.id T.rtr T.dlc T.data = some (afterF T)):=Lib.hid (by have h1:=HTK.out;have h2:=HF.out;exact afterI (by omega) (by omega))
  have HSI : Hid (impl_fieldSize.f (afterF T) T.ext T.id T.rtr T.dlc T.data = some (sizeF { T with field:=afterF T })):=Lib.hid (sizeI (s := { T with field:=afterF T }) HAR.out.1 HAR.out.2 HTD.out.1 HTD.out.2)
  generalize afterF T = AF at HSTEP HAR HAI HSI
  clear hL
  go_wp2_with (fail)
  (refine (impl_fieldAfter.calls T.field T.ext T.id T.rtr T.dlc A5 c5 T.data AF _ (Kd.R_reads' HW8.out.row).2.2 (Kd.R_reads' HW8.out.row).2.1 HAI.out (HG.out.next HW8.out.below)).mono ?_;rintro e w9 ⟨rfl,hb9⟩;have HW9:=Lib.hid (HW8.out.step hb9);clear hb9;clear hc0 hc1 hc2 hc3 hc4 hc5 hc6 hc7 hc8 hc9 hc10 hf0 hf1 hf2 hf3 hf4 hf5 hf6 hf7 hf8 hf9 hf10;obtain ⟨hc0,hc1,hc2,hc3,hc4,hc5,hc6,hc7,hc8,hc9,hc10⟩:=cSall HW9.out.box;obtain ⟨hf0,hf1,hf2,hf3,hf4,hf5,hf6,hf7,hf8,hf9,hf10⟩:=fSall HW9.out.box)
  have HW10:=Lib.hid (HW9.out.put (setS0 HW9.out.box AF) rfl)
  go_wp2_with (fail)
  (refine (impl_fieldSize.calls AF T.ext T.id T.rtr T.dlc A5 c5 T.data _ _ (Kd.R_reads' HW10.out.row).2.2 (Kd.R_reads' HW10.out.row).2.1 HSI.out (HG.out.next HW10.out.below)).mono ?_;rintro e w11 ⟨rfl,hb11⟩;have HW11:=Lib.hid (HW10.out.step hb11);clear hb11;clear hc0 hc1 hc2 hc3 hc4 hc5 hc6 hc7 hc8 hc9 hc10 hf0 hf1 hf2 hf3 hf4 hf5 hf6 hf7 hf8 hf9 hf10;obtain ⟨hc0,hc1,hc2,hc3,hc4,hc5,hc6,hc7,hc8,hc9,hc10⟩:=cSall HW11.out.box;obtain ⟨hf0,hf1,hf2,hf3,hf4,hf5,hf6,hf7,hf8,hf9,hf10⟩:=fSall HW11.out.box)
  generalize hSZ : sizeF { T with field:=AF } = SZ at HSI ⊢
  have HSZ:=Lib.hid hSZ
  clear hSZ
  have HW12:=Lib.hid (HW11.out.put (setS1 HW11.out.box SZ) rfl)
  by_cases h9 : AF = 9
  ·have b9 : (AF == 9) = true:=beq_iff_eq.mpr h9
   have HH9:=Lib.hid h9
   clear h9
   have hns:=HW12.out.nil
   have hsz12 : (w11.setCell ⟨w.heap.size,1,none⟩ (.int .i64 SZ)).heap.size = w11.heap.size:=by simp [World.setCell]
   rw [hsz12] at hns
   have HW13:=Lib.hid hns
   clear hns hsz12
   obtain ⟨hg0,hg1,hg2,hg3,hg4,hg5,hg6,hg7,hg8,hg9,hg10⟩:=cSall (blk_alloc HW12.out.box (.cells #[] 5))
   have hgf:=fS (blk_alloc HW12.out.box (.cells #[] 5)) 10
   go_wp2_with ((with_reducible refine gate_store (t:=31) (p:=4) rfl ?_);refine store_box rfl rfl rfl (g:=w.heap.size + 1) (j:=0) (cs := #[.int .i64 0, .int .i64 0, .int .i64 0, .int .i64 0, .int .i64 0, .int .i64 0, .bool false, .int .u32 0, .bool false, .int .i64 0, .slice none 0 0]) (cs' := #[.int .i64 AF, .int .i64 SZ, .int .i64 T.run, .int .i64 T.level, .int .i64 T.crc, .int .i64 T.acc, .bool T.ext, .int .u32 T.id, .bool T.rtr, .int .i64 T.dlc,(.slice (some ⟨w11.heap.size,0,none⟩) 0 0)]) (T:=31) (u := .agg #[.int .i64 AF, .int .i64 SZ, .int .i64 T.run, .int .i64 T.level, .int .i64 T.crc, .int .i64 T.acc, .bool T.ext, .int .u32 T.id, .bool T.rtr, .int .i64 T.dlc,(.slice (some ⟨w11.heap.size,0,none⟩) 0 0)]) (seg := [.int .i64 AF, .int .i64 SZ, .int .i64 T.run, .int .i64 T.level, .int .i64 T.crc, .int .i64 T.acc, .bool T.ext, .int .u32 T.id, .bool T.rtr, .int .i64 T.dlc,(.slice (some ⟨w11.heap.size,0,none⟩) 0 0)]) rfl rfl HW13.out.res rfl (by kernel_rfl) rfl rfl rfl ?_;intro wz hx hT;have HX:=Lib.hid hx;have HTZ:=Lib.hid hT;have HBz:=Lib.hid (hT.below HW13.out.below HW13.out.below.size (fun k hk => by omega));clear hx hT)
   refine bodyPost_ret (results_ct rfl _ _ (w.heap.size + 1) 31 #[.int .i64 AF, .int .i64 SZ, .int .i64 T.run, .int .i64 T.level, .int .i64 T.crc, .int .i64 T.acc, .bool T.ext, .int .u32 T.id, .bool T.rtr, .int .i64 T.dlc,(.slice (some ⟨w11.heap.size,0,none⟩) 0 0)] (0,0) _ rfl HX.out Tryd.underlying31 rfl (by kernel_rfl)) rfl ?_
   rw [HSTEP.out,show enterS T AF = { T with field:=AF,left:=SZ,data := [] } by unfold enterS;rw [if_pos HH9.out,HSZ.out]]
   exact ⟨_,rfl,Kd.R_mono (HTZ.out.R HW13.out.row (fun k hk e => by omega)) (fun _ _ => trivial),HBz.out⟩
  ·have b9 : (AF == 9) = false:=beq_eq_false_iff_ne.mpr h9
   have HH9:=Lib.hid h9
   clear h9
   go_wp2_with ((with_reducible refine gate_store (t:=31) (p:=4) rfl ?_);refine store_box rfl rfl rfl (g:=w.heap.size + 1) (j:=0) (cs := #[.int .i64 0, .int .i64 0, .int .i64 0, .int .i64 0, .int .i64 0, .int .i64 0, .bool false, .int .u32 0, .bool false, .int .i64 0, .slice none 0 0]) (cs' := #[.int .i64 AF, .int .i64 SZ, .int .i64 T.run, .int .i64 T.level, .int .i64 T.crc, .int .i64 T.acc, .bool T.ext, .int .u32 T.id, .bool T.rtr, .int .i64 T.dlc,(.slice A5 T.data.length c5)]) (T:=31) (u := .agg #[.int .i64 AF, .int .i64 SZ, .int .i64 T.run, .int .i64 T.level, .int .i64 T.crc, .int .i64 T.acc, .bool T.ext, .int .u32 T.id, .bool T.rtr, .int .i64 T.dlc,(.slice A5 T.data.length c5)]) (seg := [.int .i64 AF, .int .i64 SZ, .int .i64 T.run, .int .i64 T.level, .int .i64 T.crc, .int .i64 T.acc, .bool T.ext, .int .u32 T.id, .bool T.rtr, .int .i64 T.dlc,(.slice A5 T.data.length c5)]) rfl rfl HW12.out.res rfl (by kernel_rfl) rfl rfl rfl ?_;intro wz hx hT;have HX:=Lib.hid hx;have HTZ:=Lib.hid hT;have HBz:=Lib.hid (hT.below HW12.out.below HW12.out.below.size (fun k hk => by omega));clear hx hT)
   refine bodyPost_ret (results_ct rfl _ _ (w.heap.size + 1) 31 #[.int .i64 AF, .int .i64 SZ, .int .i64 T.run, .int .i64 T.level, .int .i64 T.crc, .int .i64 T.acc, .bool T.ext, .int .u32 T.id, .bool T.rtr, .int .i64 T.dlc,(.slice A5 T.data.length c5)] (0,0) _ rfl HX.out Tryd.underlying31 rfl (by kernel_rfl)) rfl ?_
   rw [HSTEP.out,show enterS T AF = { T with field:=AF,left:=SZ } by unfold enterS;rw [if_neg HH9.out,HSZ.out]]
   exact ⟨_,rfl,Kd.R_mono (HTZ.out.R HW12.out.row (fun k hk e => by omega)) (fun _ _ => trivial),HBz.out⟩
 ·have bL : (T.left - 1 == 0) = false:=beq_eq_false_iff_ne.mpr hL
  have HL0:=Lib.hid hL
  have HSTEP : Hid (stepS T = { T with left:=T.left - 1 }):=Lib.hid (by unfold stepS;rw [if_neg hL])
  clear hL
  go_wp2_with ((with_reducible refine gate_store (t:=31) (p:=4) rfl ?_);refine store_box rfl rfl rfl (g:=w.heap.size + 1) (j:=0) (cs := #[.int .i64 0, .int .i64 0, .int .i64 0, .int .i64 0, .int .i64 0, .int .i64 0, .bool false, .int .u32 0, .bool false, .int .i64 0, .slice none 0 0]) (cs' := #[.int .i64 T.field, .int .i64 (T.left - 1), .int .i64 T.run, .int .i64 T.level, .int .i64 T.crc, .int .i64 T.acc, .bool T.ext, .int .u32 T.id, .bool T.rtr, .int .i64 T.dlc,(.slice A5 T.data.length c5)]) (T:=31) (u := .agg #[.int .i64 T.field, .int .i64 (T.left - 1), .int .i64 T.run, .int .i64 T.level, .int .i64 T.crc, .int .i64 T.acc, .bool T.ext, .int .u32 T.id, .bool T.rtr, .int .i64 T.dlc,(.slice A5 T.data.length c5)]) (seg := [.int .i64 T.field, .int .i64 (T.left - 1), .int .i64 T.run, .int .i64 T.level, .int .i64 T.crc, .int .i64 T.acc, .bool T.ext, .int .u32 T.id, .bool T.rtr, .int .i64 T.dlc,(.slice A5 T.data.length c5)]) rfl rfl HW8.out.res rfl (by kernel_rfl) rfl rfl rfl ?_;intro wz hx hT;have HX:=Lib.hid hx;have HTZ:=Lib.hid hT;have HBz:=Lib.hid (hT.below HW8.out.below HW8.out.below.size (fun k hk => by omega));clear hx hT)
  refine bodyPost_ret (results_ct rfl _ _ (w.heap.size + 1) 31 #[.int .i64 T.field, .int .i64 (T.left - 1), .int .i64 T.run, .int .i64 T.level, .int .i64 T.crc, .int .i64 T.acc, .bool T.ext, .int .u32 T.id, .bool T.rtr, .int .i64 T.dlc,(.slice A5 T.data.length c5)] (0,0) _ rfl HX.out Tryd.underlying31 rfl (by kernel_rfl)) rfl ?_
  rw [HSTEP.out]
  exact ⟨_,rfl,Kd.R_mono (HTZ.out.R HW8.out.row (fun k hk e => by omega)) (fun _ _ => trivial),HBz.out⟩
set_option maxHeartbeats 1000000 in
set_option maxRecDepth 100000 in
theorem scan_other_crc_0_0 (w : World) (s : SS) (A : Option Addr) (c : Nat) (hr : Kd.C (Kd.int .u8) w A s.data.length s.data) (hc : s.data.length ≤ c) (hG : LaidRows w) (hs : Sound s) (i0 : 0 ≤ s.id) (hby : ∀ x ∈ s.data,0 ≤ x ∧ x < 256) (h5 : s.run ≠ 5) (hv : verdictV s 0 = 0) (hlim : s.field = 14 → s.left ≠ 1) (hq : s.field ≤ 10) (hr0 : 0 < s.run) (hlv : s.level ≠ 0) (hcr : s.field ≤ 9) :
  Calls Tryd.prog 8 #[.agg #[.int .i64 s.field, .int .i64 s.left, .int .i64 s.run, .int .i64 s.level, .int .i64 s.crc, .int .i64 s.acc, .bool s.ext, .int .u32 s.id, .bool s.rtr, .int .i64 s.dlc,(.slice A s.data.length c)], .int .i64 0] w fun e w' => ∃ v : Value,e = .returned (.tuple #[.agg #[.int .i64 (stepS (takeS (crcT (runS s 0) 0) 0)).field, .int .i64 (stepS (takeS (crcT (runS s 0) 0) 0)).left, .int .i64 (stepS (takeS (crcT (runS s 0) 0) 0)).run, .int .i64 (stepS (takeS (crcT (runS s 0) 0) 0)).level, .int .i64 (stepS (takeS (crcT (runS s 0) 0) 0)).crc, .int .i64 (stepS (takeS (crcT (runS s 0) 0) 0)).acc, .bool (stepS (takeS (crcT (runS s 0) 0) 0)).ext, .int .u32 (stepS (takeS (crcT (runS s 0) 0) 0)).id, .bool (stepS (takeS (crcT (runS s 0) 0) 0)).rtr, .int .i64 (stepS (takeS (crcT (runS s 0) 0) 0)).dlc,v], .int .i64 0]) ∧ Kd.R (Kd.int .u8) 5 w' w.heap.size (fun _ => True) v (stepS (takeS (crcT (runS s 0) 0) 0)).data ∧ Below w.heap.size w w':=by
 have HR:=Lib.hid hr
 have HC:=Lib.hid hc
 have HG:=Lib.hid hG
 clear hr hc hG
 have HS:=Lib.hid hs
 have HCP : Hid (impl_copyFrame.f s.ext s.id s.rtr s.dlc s.data = some (s.ext,s.id,s.rtr,s.dlc,s.data)):=Lib.hid (copy_eq (by have:=hs.dl;omega))
 have HSB : Hid (Sound s):=Lib.hid hs
 have HVB : Hid (verdictV s 0 = 0):=Lib.hid hv
 have b5 : (s.run == 5) = false:=beq_eq_false_iff_ne.mpr h5
 have r0:=hs.r0
 have r1:=hs.r1
 have f0:=hs.f0
 have bl : (s.level == 0) = false:=beq_eq_false_iff_ne.mpr hlv
 have HE1 : Hid (crcT (runS s 0) 0 = ({ s with run:=1,level:=0,crc:=crcI s.crc 0 } : SS)):=Lib.hid (by rw [show runS s 0 = ({ s with run:=1,level:=0 } : SS) by unfold runS;rw [if_neg (by omega),if_neg (fun h => hlv h.2)]];unfold crcT;rw [if_pos (show s.field ≤ 9 from hcr)])
 have HOK : Hid (SOk ({ s with run:=1,level:=0,crc:=crcI s.crc 0 } : SS)):=Lib.hid (by have h:=hs.ok i0 hby;exact ⟨h.f0,h.f1,h.l0,h.l1,h.d0,h.d1,h.i0,h.i1,h.a0,h.a1,h.ne,h.by_,h.dl⟩)
 have HTK : Hid ((takeS ({ s with run:=1,level:=0,crc:=crcI s.crc 0 } : SS) 0).field = s.field ∧ (takeS ({ s with run:=1,level:=0,crc:=crcI s.crc 0 } : SS) 0).left = s.left):=Lib.hid (takeS_keep _ _)
 have HTD : Hid (0 ≤ (takeS ({ s with run:=1,level:=0,crc:=crcI s.crc 0 } : SS) 0).dlc ∧ (takeS ({ s with run:=1,level:=0,crc:=crcI s.crc 0 } : SS) 0).dlc ≤ 15):=Lib.hid (takeS_dlc (s := { s with run:=1,level:=0,crc:=crcI s.crc 0 }) hs.d0 hs.d1 _)
 have HF : Hid (1 ≤ s.field ∧ s.field ≤ 14 ∧ 1 ≤ s.left ∧ s.left ≤ 64 ∧ (s.field = 14 → s.left ≠ 1)):=Lib.hid ⟨hs.f0,hs.f1,hs.l0,by have:=(sizeF_le hs.f0 hs.f1 hs.d0).2;have:=hs.l1;omega,hlim⟩
 clear hs i0 hby h5 hv hlim hlv
 rw [HE1.out]
 generalize hTT : takeS ({ s with run:=1,level:=0,crc:=crcI s.crc 0 } : SS) 0 = T at HTK HTD ⊢
 have HTT:=Lib.hid hTT
 clear hTT
 go_enter Tryd.func8,Tryd.ntmps8
 go_wp2_with (fail)
 (refine (sound_yes s HSB.out A c _ (Kd.C_alloc (Kd.C_alloc HR.out _) _) HC.out (HG.out.alloc _ |>.alloc _)).mono ?_;rintro e w1 ⟨rfl,hb1⟩;have HW1:=Lib.hid ((SbIn.start w s (.slice A s.data.length c)).step hb1);clear hb1)
 have hx6:=cS6 HW1.out.box
 have hx7:=cS7 HW1.out.box
 have hx8:=cS8 HW1.out.box
 have hx9:=cS9 HW1.out.box
 have hx10:=cS10 HW1.out.box
 go_wp2_with (fail)
 clear hx6 hx7 hx8 hx9 hx10
 (refine (impl_copyFrame.calls s.ext s.id s.rtr s.dlc A c s.data s.ext s.id s.rtr s.dlc s.data _ (Kd.C_below HR.out HW1.out.below) HC.out HCP.out).mono ?_;rintro e w2 ⟨v2,rfl,hr2,hb2⟩;obtain ⟨A2,c2,rfl⟩:=Kd.R_slice hr2;have HR2:=Lib.hid hr2;have HB2:=Lib.hid hb2;have HW2:=Lib.hid (HW1.out.step hb2);clear hr2 hb2)
 go_wp2_with ((with_reducible refine gate_store (t:=29) (p:=22) rfl ?_);refine store_box rfl rfl rfl (g:=w.heap.size) (j:=6) (cs := #[.int .i64 s.field, .int .i64 s.left, .int .i64 s.run, .int .i64 s.level, .int .i64 s.crc, .int .i64 s.acc, .bool s.ext, .int .u32 s.id, .bool s.rtr, .int .i64 s.dlc,(.slice A s.data.length c)]) (cs' := #[.int .i64 s.field, .int .i64 s.left, .int .i64 s.run, .int .i64 s.level, .int .i64 s.crc, .int .i64 s.acc, .bool s.ext, .int .u32 s.id, .bool s.rtr, .int .i64 s.dlc,(.slice A2 s.data.length c2)]) (T:=31) (u := .agg #[.bool s.ext, .int .u32 s.id, .bool s.rtr, .int .i64 s.dlc,(.slice A2 s.data.length c2)]) (seg := [.bool s.ext, .int .u32 s.id, .bool s.rtr, .int .i64 s.dlc,(.slice A2 s.data.length c2)]) rfl rfl HW2.out.box rfl (by kernel_rfl) rfl rfl rfl ?_;intro w3 hx hT;have HW3:=Lib.hid (SbO.ofCopy HW1.out HB2.out HR2.out hx hT);clear hx hT;obtain ⟨hc0,hc1,hc2,hc3,hc4,hc5,hc6,hc7,hc8,hc9,hc10⟩:=cSall HW3.out.box;obtain ⟨hf0,hf1,hf2,hf3,hf4,hf5,hf6,hf7,hf8,hf9,hf10⟩:=fSall HW3.out.box)
 (refine (verdict_run s 0 0 (by omega) HSB.out.l0 HVB.out (.slice A2 s.data.length c2) _).mono ?_;rintro e w4 ⟨rfl,hb4⟩;have HW4:=Lib.hid (HW3.out.step hb4);clear hb4;clear hc0 hc1 hc2 hc3 hc4 hc5 hc6 hc7 hc8 hc9 hc10 hf0 hf1 hf2 hf3 hf4 hf5 hf6 hf7 hf8 hf9 hf10;obtain ⟨hc0,hc1,hc2,hc3,hc4,hc5,hc6,hc7,hc8,hc9,hc10⟩:=cSall HW4.out.box;obtain ⟨hf0,hf1,hf2,hf3,hf4,hf5,hf6,hf7,hf8,hf9,hf10⟩:=fSall HW4.out.box)
 go_wp2_with (first | (go_at_call 30;refine (impl_crcBit.same _ _ _).mono ?_;rintro e w' ⟨rfl,rfl⟩))
 have HW6 : Hid (SbO w _ ({ s with run:=1,level:=0,crc:=crcI s.crc 0 } : SS) _):=Lib.hid (((HW4.out.put (setS2 HW4.out.box (1)) rfl).put (setS3 (setS2 HW4.out.box (1)) (0)) rfl).put (setS4 (setS3 (setS2 HW4.out.box (1)) (0)) (crcI s.crc 0)) rfl)
 (refine (impl_Scan_plain.calls w.heap.size _ ({ s with run:=1,level:=0,crc:=crcI s.crc 0 } : SS) 0 (by omega) (fun k => w.heap.size + 1 < k) w _ HW6.out.toIn (Nat.le_refl _) (by (try simp only []);omega) HOK.out).mono ?_;intro e w5 hE;obtain ⟨v5,h7⟩:=HW6.out.ofEnd hE;have hret:=hE.ret;subst hret;clear hE)
 rw [HTT.out] at h7
 obtain ⟨A5,c5,rfl,hC5,hc5⟩:=h7.open_
 have HW7:=Lib.hid h7
 clear h7 hC5 hc5 HTT HW6 HE1 HOK
 clear hc0 hc1 hc2 hc3 hc4 hc5 hc6 hc7 hc8 hc9 hc10 hf0 hf1 hf2 hf3 hf4 hf5 hf6 hf7 hf8 hf9 hf10
 obtain ⟨hc0,hc1,hc2,hc3,hc4,hc5,hc6,hc7,hc8,hc9,hc10⟩:=cSall HW7.out.box
 obtain ⟨hf0,hf1,hf2,hf3,hf4,hf5,hf6,hf7,hf8,hf9,hf10⟩:=fSall HW7.out.box
 have tl0 : 1 ≤ T.left:=by have:=HTK.out;have:=HF.out;omega
 have tl1 : T.left ≤ 64:=by have:=HTK.out;have:=HF.out;omega
 have HW8:=Lib.hid (HW7.out.put (setS1 HW7.out.box (T.left - 1)) rfl)
 by_cases hL : T.left - 1 = 0
 ·have bL : (T.left - 1 == 0) = true:=beq_iff_eq.mpr hL
  have HL0:=Lib.hid hL
  have HSTEP : Hid (stepS T = enterS T (afterF T)):=Lib.hid (by unfold stepS;rw [if_pos hL])
  have HAR : Hid (1 ≤ afterF T ∧ afterF T ≤ 14):=Lib.hid (by have h1:=HTK.out;have h2:=HF.out;exact afterF_range (by omega) (by omega))
  have HAI : Hid (impl_fieldAfter.f T.field T.ext T.id T.rtr T.dlc T.data = some (afterF T)):=Lib.hid (by have h1:=HTK.out;have h2:=HF.out;exact afterI (by omega) (by omega))
  have HSI : Hid (impl_fieldSize.f (afterF T) T.ext T.id T.rtr T.dlc T.data = some (sizeF { T with field:=afterF T })):=Lib.hid (sizeI (s := { T with field:=afterF T }) HAR.out.1 HAR.out.2 HTD.out.1 HTD.out.2)
  generalize afterF T = AF at HSTEP HAR HAI HSI
  clear hL
  go_wp2_with (fail)
  (refine (impl_fieldAfter.calls T.field T.ext T.id T.rtr T.dlc A5 c5 T.data AF _ (Kd.R_reads' HW8.out.row).2.2 (Kd.R_reads' HW8.out.row).2.1 HAI.out (HG.out.next HW8.out.below)).mono ?_;rintro e w9 ⟨rfl,hb9⟩;have HW9:=Lib.hid (HW8.out.step hb9);clear hb9;clear hc0 hc1 hc2 hc3 hc4 hc5 hc6 hc7 hc8 hc9 hc10 hf0 hf1 hf2 hf3 hf4 hf5 hf6 hf7 hf8 hf9 hf10;obtain ⟨hc0,hc1,hc2,hc3,hc4,hc5,hc6,hc7,hc8,hc9,hc10⟩:=cSall HW9.out.box;obtain ⟨hf0,hf1,hf2,hf3,hf4,hf5,hf6,hf7,hf8,hf9,hf10⟩:=fSall HW9.out.box)
  have HW10:=Lib.hid (HW9.out.put (setS0 HW9.out.box AF) rfl)
  go_wp2_with (fail)
  (refine (impl_fieldSize.calls AF T.ext T.id T.rtr T.dlc A5 c5 T.data _ _ (Kd.R_reads' HW10.out.row).2.2 (Kd.R_reads' HW10.out.row).2.1 HSI.out (HG.out.next HW10.out.below)).mono ?_;rintro e w11 ⟨rfl,hb11⟩;have HW11:=Lib.hid (HW10.out.step hb11);clear hb11;clear hc0 hc1 hc2 hc3 hc4 hc5 hc6 hc7 hc8 hc9 hc10 hf0 hf1 hf2 hf3 hf4 hf5 hf6 hf7 hf8 hf9 hf10;obtain ⟨hc0,hc1,hc2,hc3,hc4,hc5,hc6,hc7,hc8,hc9,hc10⟩:=cSall HW11.out.box;obtain ⟨hf0,hf1,hf2,hf3,hf4,hf5,hf6,hf7,hf8,hf9,hf10⟩:=fSall HW11.out.box)
  generalize hSZ : sizeF { T with field:=AF } = SZ at HSI ⊢
  have HSZ:=Lib.hid hSZ
  clear hSZ
  have HW12:=Lib.hid (HW11.out.put (setS1 HW11.out.box SZ) rfl)
  by_cases h9 : AF = 9
  ·have b9 : (AF == 9) = true:=beq_iff_eq.mpr h9
   have HH9:=Lib.hid h9
   clear h9
   have hns:=HW12.out.nil
   have hsz12 : (w11.setCell ⟨w.heap.size,1,none⟩ (.int .i64 SZ)).heap.size = w11.heap.size:=by simp [World.setCell]
   rw [hsz12] at hns
   have HW13:=Lib.hid hns
   clear hns hsz12
   obtain ⟨hg0,hg1,hg2,hg3,hg4,hg5,hg6,hg7,hg8,hg9,hg10⟩:=cSall (blk_alloc HW12.out.box (.cells #[] 5))
   have hgf:=fS (blk_alloc HW12.out.box (.cells #[] 5)) 10
   go_wp2_with ((with_reducible refine gate_store (t:=31) (p:=4) rfl ?_);refine store_box rfl rfl rfl (g:=w.heap.size + 1) (j:=0) (cs := #[.int .i64 0, .int .i64 0, .int .i64 0, .int .i64 0, .int .i64 0, .int .i64 0, .bool false, .int .u32 0, .bool false, .int .i64 0, .slice none 0 0]) (cs' := #[.int .i64 AF, .int .i64 SZ, .int .i64 T.run, .int .i64 T.level, .int .i64 T.crc, .int .i64 T.acc, .bool T.ext, .int .u32 T.id, .bool T.rtr, .int .i64 T.dlc,(.slice (some ⟨w11.heap.size,0,none⟩) 0 0)]) (T:=31) (u := .agg #[.int .i64 AF, .int .i64 SZ, .int .i64 T.run, .int .i64 T.level, .int .i64 T.crc, .int .i64 T.acc, .bool T.ext, .int .u32 T.id, .bool T.rtr, .int .i64 T.dlc,(.slice (some ⟨w11.heap.size,0,none⟩) 0 0)]) (seg := [.int .i64 AF, .int .i64 SZ, .int .i64 T.run, .int .i64 T.level, .int .i64 T.crc, .int .i64 T.acc, .bool T.ext, .int .u32 T.id, .bool T.rtr, .int .i64 T.dlc,(.slice (some ⟨w11.heap.size,0,none⟩) 0 0)]) rfl rfl HW13.out.res rfl (by kernel_rfl) rfl rfl rfl ?_;intro wz hx hT;have HX:=Lib.hid hx;have HTZ:=Lib.hid hT;have HBz:=Lib.hid (hT.below HW13.out.below HW13.out.below.size (fun k hk => by omega));clear hx hT)
   refine bodyPost_ret (results_ct rfl _ _ (w.heap.size + 1) 31 #[.int .i64 AF, .int .i64 SZ, .int .i64 T.run, .int .i64 T.level, .int .i64 T.crc, .int .i64 T.acc, .bool T.ext, .int .u32 T.id, .bool T.rtr, .int .i64 T.dlc,(.slice (some ⟨w11.heap.size,0,none⟩) 0 0)] (0,0) _ rfl HX.out Tryd.underlying31 rfl (by kernel_rfl)) rfl ?_
   rw [HSTEP.out,show enterS T AF = { T with field:=AF,left:=SZ,data := [] } by unfold enterS;rw [if_pos HH9.out,HSZ.out]]
   exact ⟨_,rfl,Kd.R_mono (HTZ.out.R HW13.out.row (fun k hk e => by omega)) (fun _ _ => trivial),HBz.out⟩
  ·have b9 : (AF == 9) = false:=beq_eq_false_iff_ne.mpr h9
   have HH9:=Lib.hid h9
   clear h9
   go_wp2_with ((with_reducible refine gate_store (t:=31) (p:=4) rfl ?_);refine store_box rfl rfl rfl (g:=w.heap.size + 1) (j:=0) (cs := #[.int .i64 0, .int .i64 0, .int .i64 0, .int .i64 0, .int .i64 0, .int .i64 0, .bool false, .int .u32 0, .bool false, .int .i64 0, .slice none 0 0]) (cs' := #[.int .i64 AF, .int .i64 SZ, .int .i64 T.run, .int .i64 T.level, .int .i64 T.crc, .int .i64 T.acc, .bool T.ext, .int .u32 T.id, .bool T.rtr, .int .i64 T.dlc,(.slice A5 T.data.length c5)]) (T:=31) (u := .agg #[.int .i64 AF, .int .i64 SZ, .int .i64 T.run, .int .i64 T.level, .int .i64 T.crc, .int .i64 T.acc, .bool T.ext, .int .u32 T.id, .bool T.rtr, .int .i64 T.dlc,(.slice A5 T.data.length c5)]) (seg := [.int .i64 AF, .int .i64 SZ, .int .i64 T.run, .int .i64 T.level, .int .i64 T.crc, .int .i64 T.acc, .bool T.ext, .int .u32 T.id, .bool T.rtr, .int .i64 T.dlc,(.slice A5 T.data.length c5)]) rfl rfl HW12.out.res rfl (by kernel_rfl) rfl rfl rfl ?_;intro wz hx hT;have HX:=Lib.hid hx;have HTZ:=Lib.hid hT;have HBz:=Lib.hid (hT.below HW12.out.below HW12.out.below.size (fun k hk => by omega));clear hx hT)
   refine bodyPost_ret (results_ct rfl _ _ (w.heap.size + 1) 31 #[.int .i64 AF, .int .i64 SZ, .int .i64 T.run, .int .i64 T.level, .int .i64 T.crc, .int .i64 T.acc, .bool T.ext, .int .u32 T.id, .bool T.rtr, .int .i64 T.dlc,(.slice A5 T.data.length c5)] (0,0) _ rfl HX.out Tryd.underlying31 rfl (by kernel_rfl)) rfl ?_
   rw [HSTEP.out,show enterS T AF = { T with field:=AF,left:=SZ } by unfold enterS;rw [if_neg HH9.out,HSZ.out]]
   exact ⟨_,rfl,Kd.R_mono (HTZ.out.R HW12.out.row (fun k hk e => by omega)) (fun _ _ => trivial),HBz.out⟩
 ·have bL : (T.left - 1 == 0) = false:=beq_eq_false_iff_ne.mpr hL
  have HL0:=Lib.hid hL
  have HSTEP : Hid (stepS T = { T with left:=T.left - 1 }):=Lib.hid (by unfold stepS;rw [if_neg hL])
  clear hL
  go_wp2_with ((with_reducible refine gate_store (t:=31) (p:=4) rfl ?_);refine store_box rfl rfl rfl (g:=w.heap.size + 1) (j:=0) (cs := #[.int .i64 0, .int .i64 0, .int .i64 0, .int .i64 0, .int .i64 0, .int .i64 0, .bool false, .int .u32 0, .bool false, .int .i64 0, .slice none 0 0]) (cs' := #[.int .i64 T.field, .int .i64 (T.left - 1), .int .i64 T.run, .int .i64 T.level, .int .i64 T.crc, .int .i64 T.acc, .bool T.ext, .int .u32 T.id, .bool T.rtr, .int .i64 T.dlc,(.slice A5 T.data.length c5)]) (T:=31) (u := .agg #[.int .i64 T.field, .int .i64 (T.left - 1), .int .i64 T.run, .int .i64 T.level, .int .i64 T.crc, .int .i64 T.acc, .bool T.ext, .int .u32 T.id, .bool T.rtr, .int .i64 T.dlc,(.slice A5 T.data.length c5)]) (seg := [.int .i64 T.field, .int .i64 (T.left - 1), .int .i64 T.run, .int .i64 T.level, .int .i64 T.crc, .int .i64 T.acc, .bool T.ext, .int .u32 T.id, .bool T.rtr, .int .i64 T.dlc,(.slice A5 T.data.length c5)]) rfl rfl HW8.out.res rfl (by kernel_rfl) rfl rfl rfl ?_;intro wz hx hT;have HX:=Lib.hid hx;have HTZ:=Lib.hid hT;have HBz:=Lib.hid (hT.below HW8.out.below HW8.out.below.size (fun k hk => by omega));clear hx hT)
  refine bodyPost_ret (results_ct rfl _ _ (w.heap.size + 1) 31 #[.int .i64 T.field, .int .i64 (T.left - 1), .int .i64 T.run, .int .i64 T.level, .int .i64 T.crc, .int .i64 T.acc, .bool T.ext, .int .u32 T.id, .bool T.rtr, .int .i64 T.dlc,(.slice A5 T.data.length c5)] (0,0) _ rfl HX.out Tryd.underlying31 rfl (by kernel_rfl)) rfl ?_
  rw [HSTEP.out]
  exact ⟨_,rfl,Kd.R_mono (HTZ.out.R HW8.out.row (fun k hk e => by omega)) (fun _ _ => trivial),HBz.out⟩
set_option maxHeartbeats 1000000 in
set_option maxRecDepth 100000 in
theorem scan_other_crc_1_0 (w : World) (s : SS) (A : Option Addr) (c : Nat) (hr : Kd.C (Kd.int .u8) w A s.data.length s.data) (hc : s.data.length ≤ c) (hG : LaidRows w) (hs : Sound s) (i0 : 0 ≤ s.id) (hby : ∀ x ∈ s.data,0 ≤ x ∧ x < 256) (h5 : s.run ≠ 5) (hv : verdictV s 1 = 0) (hlim : s.field = 14 → s.left ≠ 1) (hq : s.field ≤ 10) (hr0 : 0 < s.run) (hlv : s.level ≠ 1) (hcr : s.field ≤ 9) :
  Calls Tryd.prog 8 #[.agg #[.int .i64 s.field, .int .i64 s.left, .int .i64 s.run, .int .i64 s.level, .int .i64 s.crc, .int .i64 s.acc, .bool s.ext, .int .u32 s.id, .bool s.rtr, .int .i64 s.dlc,(.slice A s.data.length c)], .int .i64 1] w fun e w' => ∃ v : Value,e = .returned (.tuple #[.agg #[.int .i64 (stepS (takeS (crcT (runS s 1) 1) 1)).field, .int .i64 (stepS (takeS (crcT (runS s 1) 1) 1)).left, .int .i64 (stepS (takeS (crcT (runS s 1) 1) 1)).run, .int .i64 (stepS (takeS (crcT (runS s 1) 1) 1)).level, .int .i64 (stepS (takeS (crcT (runS s 1) 1) 1)).crc, .int .i64 (stepS (takeS (crcT (runS s 1) 1) 1)).acc, .bool (stepS (takeS (crcT (runS s 1) 1) 1)).ext, .int .u32 (stepS (takeS (crcT (runS s 1) 1) 1)).id, .bool (stepS (takeS (crcT (runS s 1) 1) 1)).rtr, .int .i64 (stepS (takeS (crcT (runS s 1) 1) 1)).dlc,v], .int .i64 0]) ∧ Kd.R (Kd.int .u8) 5 w' w.heap.size (fun _ => True) v (stepS (takeS (crcT (runS s 1) 1) 1)).data ∧ Below w.heap.size w w':=by
 have HR:=Lib.hid hr
 have HC:=Lib.hid hc
 have HG:=Lib.hid hG
 clear hr hc hG
 have HS:=Lib.hid hs
 have HCP : Hid (impl_copyFrame.f s.ext s.id s.rtr s.dlc s.data = some (s.ext,s.id,s.rtr,s.dlc,s.data)):=Lib.hid (copy_eq (by have:=hs.dl;omega))
 have HSB : Hid (Sound s):=Lib.hid hs
 have HVB : Hid (verdictV s 1 = 0):=Lib.hid hv
 have b5 : (s.run == 5) = false:=beq_eq_false_iff_ne.mpr h5
 have r0:=hs.r0
 have r1:=hs.r1
 have f0:=hs.f0
 have bl : (s.level == 1) = false:=beq_eq_false_iff_ne.mpr hlv
 have HE1 : Hid (crcT (runS s 1) 1 = ({ s with run:=1,level:=1,crc:=crcI s.crc 1 } : SS)):=Lib.hid (by rw [show runS s 1 = ({ s with run:=1,level:=1 } : SS) by unfold runS;rw [if_neg (by omega),if_neg (fun h => hlv h.2)]];unfold crcT;rw [if_pos (show s.field ≤ 9 from hcr)])
 have HOK : Hid (SOk ({ s with run:=1,level:=1,crc:=crcI s.crc 1 } : SS)):=Lib.hid (by have h:=hs.ok i0 hby;exact ⟨h.f0,h.f1,h.l0,h.l1,h.d0,h.d1,h.i0,h.i1,h.a0,h.a1,h.ne,h.by_,h.dl⟩)
 have HTK : Hid ((takeS ({ s with run:=1,level:=1,crc:=crcI s.crc 1 } : SS) 1).field = s.field ∧ (takeS ({ s with run:=1,level:=1,crc:=crcI s.crc 1 } : SS) 1).left = s.left):=Lib.hid (takeS_keep _ _)
 have HTD : Hid (0 ≤ (takeS ({ s with run:=1,level:=1,crc:=crcI s.crc 1 } : SS) 1).dlc ∧ (takeS ({ s with run:=1,level:=1,crc:=crcI s.crc 1 } : SS) 1).dlc ≤ 15):=Lib.hid (takeS_dlc (s := { s with run:=1,level:=1,crc:=crcI s.crc 1 }) hs.d0 hs.d1 _)
 have HF : Hid (1 ≤ s.field ∧ s.field ≤ 14 ∧ 1 ≤ s.left ∧ s.left ≤ 64 ∧ (s.field = 14 → s.left ≠ 1)):=Lib.hid ⟨hs.f0,hs.f1,hs.l0,by have:=(sizeF_le hs.f0 hs.f1 hs.d0).2;have:=hs.l1;omega,hlim⟩
 clear hs i0 hby h5 hv hlim hlv
 rw [HE1.out]
 generalize hTT : takeS ({ s with run:=1,level:=1,crc:=crcI s.crc 1 } : SS) 1 = T at HTK HTD ⊢
 have HTT:=Lib.hid hTT
 clear hTT
 go_enter Tryd.func8,Tryd.ntmps8
 go_wp2_with (fail)
 (refine (sound_yes s HSB.out A c _ (Kd.C_alloc (Kd.C_alloc HR.out _) _) HC.out (HG.out.alloc _ |>.alloc _)).mono ?_;rintro e w1 ⟨rfl,hb1⟩;have HW1:=Lib.hid ((SbIn.start w s (.slice A s.data.length c)).step hb1);clear hb1)
 have hx6:=cS6 HW1.out.box
 have hx7:=cS7 HW1.out.box
 have hx8:=cS8 HW1.out.box
 have hx9:=cS9 HW1.out.box
 have hx10:=cS10 HW1.out.box
 go_wp2_with (fail)
 clear hx6 hx7 hx8 hx9 hx10
 (refine (impl_copyFrame.calls s.ext s.id s.rtr s.dlc A c s.data s.ext s.id s.rtr s.dlc s.data _ (Kd.C_below HR.out HW1.out.below) HC.out HCP.out).mono ?_;rintro e w2 ⟨v2,rfl,hr2,hb2⟩;obtain ⟨A2,c2,rfl⟩:=Kd.R_slice hr2;have HR2:=Lib.hid hr2;have HB2:=Lib.hid hb2;have HW2:=Lib.hid (HW1.out.step hb2);clear hr2 hb2)
 go_wp2_with ((with_reducible refine gate_store (t:=29) (p:=22) rfl ?_);refine store_box rfl rfl rfl (g:=w.heap.size) (j:=6) (cs := #[.int .i64 s.field, .int .i64 s.left, .int .i64 s.run, .int .i64 s.level, .int .i64 s.crc, .int .i64 s.acc, .bool s.ext, .int .u32 s.id, .bool s.rtr, .int .i64 s.dlc,(.slice A s.data.length c)]) (cs' := #[.int .i64 s.field, .int .i64 s.left, .int .i64 s.run, .int .i64 s.level, .int .i64 s.crc, .int .i64 s.acc, .bool s.ext, .int .u32 s.id, .bool s.rtr, .int .i64 s.dlc,(.slice A2 s.data.length c2)]) (T:=31) (u := .agg #[.bool s.ext, .int .u32 s.id, .bool s.rtr, .int .i64 s.dlc,(.slice A2 s.data.length c2)]) (seg := [.bool s.ext, .int .u32 s.id, .bool s.rtr, .int .i64 s.dlc,(.slice A2 s.data.length c2)]) rfl rfl HW2.out.box rfl (by kernel_rfl) rfl rfl rfl ?_;intro w3 hx hT;have HW3:=Lib.hid (SbO.ofCopy HW1.out HB2.out HR2.out hx hT);clear hx hT;obtain ⟨hc0,hc1,hc2,hc3,hc4,hc5,hc6,hc7,hc8,hc9,hc10⟩:=cSall HW3.out.box;obtain ⟨hf0,hf1,hf2,hf3,hf4,hf5,hf6,hf7,hf8,hf9,hf10⟩:=fSall HW3.out.box)
 (refine (verdict_run s 1 0 (by omega) HSB.out.l0 HVB.out (.slice A2 s.data.length c2) _).mono ?_;rintro e w4 ⟨rfl,hb4⟩;have HW4:=Lib.hid (HW3.out.step hb4);clear hb4;clear hc0 hc1 hc2 hc3 hc4 hc5 hc6 hc7 hc8 hc9 hc10 hf0 hf1 hf2 hf3 hf4 hf5 hf6 hf7 hf8 hf9 hf10;obtain ⟨hc0,hc1,hc2,hc3,hc4,hc5,hc6,hc7,hc8,hc9,hc10⟩:=cSall HW4.out.box;obtain ⟨hf0,hf1,hf2,hf3,hf4,hf5,hf6,hf7,hf8,hf9,hf10⟩:=fSall HW4.out.box)
 go_wp2_with (first | (go_at_call 30;refine (impl_crcBit.same _ _ _).mono ?_;rintro e w' ⟨rfl,rfl⟩))
 have HW6 : Hid (SbO w _ ({ s with run:=1,level:=1,crc:=crcI s.crc 1 } : SS) _):=Lib.hid (((HW4.out.put (setS2 HW4.out.box (1)) rfl).put (setS3 (setS2 HW4.out.box (1)) (1)) rfl).put (setS4 (setS3 (setS2 HW4.out.box (1)) (1)) (crcI s.crc 1)) rfl)
 (refine (impl_Scan_plain.calls w.heap.size _ ({ s with run:=1,level:=1,crc:=crcI s.crc 1 } : SS) 1 (by omega) (fun k => w.heap.size + 1 < k) w _ HW6.out.toIn (Nat.le_refl _) (by (try simp only []);omega) HOK.out).mono ?_;intro e w5 hE;obtain ⟨v5,h7⟩:=HW6.out.ofEnd hE;have hret:=hE.ret;subst hret;clear hE)
 rw [HTT.out] at h7
 obtain ⟨A5,c5,rfl,hC5,hc5⟩:=h7.open_
 have HW7:=Lib.hid h7
 clear h7 hC5 hc5 HTT HW6 HE1 HOK
 clear hc0 hc1 hc2 hc3 hc4 hc5 hc6 hc7 hc8 hc9 hc10 hf0 hf1 hf2 hf3 hf4 hf5 hf6 hf7 hf8 hf9 hf10
 obtain ⟨hc0,hc1,hc2,hc3,hc4,hc5,hc6,hc7,hc8,hc9,hc10⟩:=cSall HW7.out.box
 obtain ⟨hf0,hf1,hf2,hf3,hf4,hf5,hf6,hf7,hf8,hf9,hf10⟩:=fSall HW7.out.box
 have tl0 : 1 ≤ T.left:=by have:=HTK.out;have:=HF.out;omega
 have tl1 : T.left ≤ 64:=by have:=HTK.out;have:=HF.out;omega
 have HW8:=Lib.hid (HW7.out.put (setS1 HW7.out.box (T.left - 1)) rfl)
 by_cases hL : T.left - 1 = 0
 ·have bL : (T.left - 1 == 0) = true:=beq_iff_eq.mpr hL
  have HL0:=Lib.hid hL
  have HSTEP : Hid (stepS T = enterS T (afterF T)):=Lib.hid (by unfold stepS;rw [if_pos hL])
  have HAR : Hid (1 ≤ afterF T ∧ afterF T ≤ 14):=Lib.hid (by have h1:=HTK.out;have h2:=HF.out;exact afterF_range (by omega) (by omega))
  have HAI : Hid (impl_fieldAfter.f T.field T.ext T.id T.rtr T.dlc T.data = some (afterF T)):=Lib.hid (by have h1:=HTK.out;have h2:=HF.out;exact afterI (by omega) (by omega))
  have HSI : Hid (impl_fieldSize.f (afterF T) T.ext T.id T.rtr T.dlc T.data = some (sizeF { T with field:=afterF T })):=Lib.hid (sizeI (s := { T with field:=afterF T }) HAR.out.1 HAR.out.2 HTD.out.1 HTD.out.2)
  generalize afterF T = AF at HSTEP HAR HAI HSI
  clear hL
  go_wp2_with (fail)
  (refine (impl_fieldAfter.calls T.field T.ext T.id T.rtr T.dlc A5 c5 T.data AF _ (Kd.R_reads' HW8.out.row).2.2 (Kd.R_reads' HW8.out.row).2.1 HAI.out (HG.out.next HW8.out.below)).mono ?_;rintro e w9 ⟨rfl,hb9⟩;have HW9:=Lib.hid (HW8.out.step hb9);clear hb9;clear hc0 hc1 hc2 hc3 hc4 hc5 hc6 hc7 hc8 hc9 hc10 hf0 hf1 hf2 hf3 hf4 hf5 hf6 hf7 hf8 hf9 hf10;obtain ⟨hc0,hc1,hc2,hc3,hc4,hc5,hc6,hc7,hc8,hc9,hc10⟩:=cSall HW9.out.box;obtain ⟨hf0,hf1,hf2,hf3,hf4,hf5,hf6,hf7,hf8,hf9,hf10⟩:=fSall HW9.out.box)
  have HW10:=Lib.hid (HW9.out.put (setS0 HW9.out.box AF) rfl)
  go_wp2_with (fail)
  (refine (impl_fieldSize.calls AF T.ext T.id T.rtr T.dlc A5 c5 T.data _ _ (Kd.R_reads' HW10.out.row).2.2 (Kd.R_reads' HW10.out.row).2.1 HSI.out (HG.out.next HW10.out.below)).mono ?_;rintro e w11 ⟨rfl,hb11⟩;have HW11:=Lib.hid (HW10.out.step hb11);clear hb11;clear hc0 hc1 hc2 hc3 hc4 hc5 hc6 hc7 hc8 hc9 hc10 hf0 hf1 hf2 hf3 hf4 hf5 hf6 hf7 hf8 hf9 hf10;obtain ⟨hc0,hc1,hc2,hc3,hc4,hc5,hc6,hc7,hc8,hc9,hc10⟩:=cSall HW11.out.box;obtain ⟨hf0,hf1,hf2,hf3,hf4,hf5,hf6,hf7,hf8,hf9,hf10⟩:=fSall HW11.out.box)
  generalize hSZ : sizeF { T with field:=AF } = SZ at HSI ⊢
  have HSZ:=Lib.hid hSZ
  clear hSZ
  have HW12:=Lib.hid (HW11.out.put (setS1 HW11.out.box SZ) rfl)
  by_cases h9 : AF = 9
  ·have b9 : (AF == 9) = true:=beq_iff_eq.mpr h9
   have HH9:=Lib.hid h9
   clear h9
   have hns:=HW12.out.nil
   have hsz12 : (w11.setCell ⟨w.heap.size,1,none⟩ (.int .i64 SZ)).heap.size = w11.heap.size:=by simp [World.setCell]
   rw [hsz12] at hns
   have HW13:=Lib.hid hns
   clear hns hsz12
   obtain ⟨hg0,hg1,hg2,hg3,hg4,hg5,hg6,hg7,hg8,hg9,hg10⟩:=cSall (blk_alloc HW12.out.box (.cells #[] 5))
   have hgf:=fS (blk_alloc HW12.out.box (.cells #[] 5)) 10
   go_wp2_with ((with_reducible refine gate_store (t:=31) (p:=4) rfl ?_);refine store_box rfl rfl rfl (g:=w.heap.size + 1) (j:=0) (cs := #[.int .i64 0, .int .i64 0, .int .i64 0, .int .i64 0, .int .i64 0, .int .i64 0, .bool false, .int .u32 0, .bool false, .int .i64 0, .slice none 0 0]) (cs' := #[.int .i64 AF, .int .i64 SZ, .int .i64 T.run, .int .i64 T.level, .int .i64 T.crc, .int .i64 T.acc, .bool T.ext, .int .u32 T.id, .bool T.rtr, .int .i64 T.dlc,(.slice (some ⟨w11.heap.size,0,none⟩) 0 0)]) (T:=31) (u := .agg #[.int .i64 AF, .int .i64 SZ, .int .i64 T.run, .int .i64 T.level, .int .i64 T.crc, .int .i64 T.acc, .bool T.ext, .int .u32 T.id, .bool T.rtr, .int .i64 T.dlc,(.slice (some ⟨w11.heap.size,0,none⟩) 0 0)]) (seg := [.int .i64 AF, .int .i64 SZ, .int .i64 T.run, .int .i64 T.level, .int .i64 T.crc, .int .i64 T.acc, .bool T.ext, .int .u32 T.id, .bool T.rtr, .int .i64 T.dlc,(.slice (some ⟨w11.heap.size,0,none⟩) 0 0)]) rfl rfl HW13.out.res rfl (by kernel_rfl) rfl rfl rfl ?_;intro wz hx hT;have HX:=Lib.hid hx;have HTZ:=Lib.hid hT;have HBz:=Lib.hid (hT.below HW13.out.below HW13.out.below.size (fun k hk => by omega));clear hx hT)
   refine bodyPost_ret (results_ct rfl _ _ (w.heap.size + 1) 31 #[.int .i64 AF, .int .i64 SZ, .int .i64 T.run, .int .i64 T.level, .int .i64 T.crc, .int .i64 T.acc, .bool T.ext, .int .u32 T.id, .bool T.rtr, .int .i64 T.dlc,(.slice (some ⟨w11.heap.size,0,none⟩) 0 0)] (0,0) _ rfl HX.out Tryd.underlying31 rfl (by kernel_rfl)) rfl ?_
   rw [HSTEP.out,show enterS T AF = { T with field:=AF,left:=SZ,data := [] } by unfold enterS;rw [if_pos HH9.out,HSZ.out]]
   exact ⟨_,rfl,Kd.R_mono (HTZ.out.R HW13.out.row (fun k hk e => by omega)) (fun _ _ => trivial),HBz.out⟩
  ·have b9 : (AF == 9) = false:=beq_eq_false_iff_ne.mpr h9
   have HH9:=Lib.hid h9
   clear h9
   go_wp2_with ((with_reducible refine gate_store (t:=31) (p:=4) rfl ?_);refine store_box rfl rfl rfl (g:=w.heap.size + 1) (j:=0) (cs := #[.int .i64 0, .int .i64 0, .int .i64 0, .int .i64 0, .int .i64 0, .int .i64 0, .bool false, .int .u32 0, .bool false, .int .i64 0, .slice none 0 0]) (cs' := #[.int .i64 AF, .int .i64 SZ, .int .i64 T.run, .int .i64 T.level, .int .i64 T.crc, .int .i64 T.acc, .bool T.ext, .int .u32 T.id, .bool T.rtr, .int .i64 T.dlc,(.slice A5 T.data.length c5)]) (T:=31) (u := .agg #[.int .i64 AF, .int .i64 SZ, .int .i64 T.run, .int .i64 T.level, .int .i64 T.crc, .int .i64 T.acc, .bool T.ext, .int .u32 T.id, .bool T.rtr, .int .i64 T.dlc,(.slice A5 T.data.length c5)]) (seg := [.int .i64 AF, .int .i64 SZ, .int .i64 T.run, .int .i64 T.level, .int .i64 T.crc, .int .i64 T.acc, .bool T.ext, .int .u32 T.id, .bool T.rtr, .int .i64 T.dlc,(.slice A5 T.data.length c5)]) rfl rfl HW12.out.res rfl (by kernel_rfl) rfl rfl rfl ?_;intro wz hx hT;have HX:=Lib.hid hx;have HTZ:=Lib.hid hT;have HBz:=Lib.hid (hT.below HW12.out.below HW12.out.below.size (fun k hk => by omega));clear hx hT)
   refine bodyPost_ret (results_ct rfl _ _ (w.heap.size + 1) 31 #[.int .i64 AF, .int .i64 SZ, .int .i64 T.run, .int .i64 T.level, .int .i64 T.crc, .int .i64 T.acc, .bool T.ext, .int .u32 T.id, .bool T.rtr, .int .i64 T.dlc,(.slice A5 T.data.length c5)] (0,0) _ rfl HX.out Tryd.underlying31 rfl (by kernel_rfl)) rfl ?_
   rw [HSTEP.out,show enterS T AF = { T with field:=AF,left:=SZ } by unfold enterS;rw [if_neg HH9.out,HSZ.out]]
   exact ⟨_,rfl,Kd.R_mono (HTZ.out.R HW12.out.row (fun k hk e => by omega)) (fun _ _ => trivial),HBz.out⟩
 ·have bL : (T.left - 1 == 0) = false:=beq_eq_false_iff_ne.mpr hL
  have HL0:=Lib.hid hL
  have HSTEP : Hid (stepS T = { T with left:=T.left - 1 }):=Lib.hid (by unfold stepS;rw [if_neg hL])
  clear hL
  go_wp2_with ((with_reducible refine gate_store (t:=31) (p:=4) rfl ?_);refine store_box rfl rfl rfl (g:=w.heap.size + 1) (j:=0) (cs := #[.int .i64 0, .int .i64 0, .int .i64 0, .int .i64 0, .int .i64 0, .int .i64 0, .bool false, .int .u32 0, .bool false, .int .i64 0, .slice none 0 0]) (cs' := #[.int .i64 T.field, .int .i64 (T.left - 1), .int .i64 T.run, .int .i64 T.level, .int .i64 T.crc, .int .i64 T.acc, .bool T.ext, .int .u32 T.id, .bool T.rtr, .int .i64 T.dlc,(.slice A5 T.data.length c5)]) (T:=31) (u := .agg #[.int .i64 T.field, .int .i64 (T.left - 1), .int .i64 T.run, .int .i64 T.level, .int .i64 T.crc, .int .i64 T.acc, .bool T.ext, .int .u32 T.id, .bool T.rtr, .int .i64 T.dlc,(.slice A5 T.data.length c5)]) (seg := [.int .i64 T.field, .int .i64 (T.left - 1), .int .i64 T.run, .int .i64 T.level, .int .i64 T.crc, .int .i64 T.acc, .bool T.ext, .int .u32 T.id, .bool T.rtr, .int .i64 T.dlc,(.slice A5 T.data.length c5)]) rfl rfl HW8.out.res rfl (by kernel_rfl) rfl rfl rfl ?_;intro wz hx hT;have HX:=Lib.hid hx;have HTZ:=Lib.hid hT;have HBz:=Lib.hid (hT.below HW8.out.below HW8.out.below.size (fun k hk => by omega));clear hx hT)
  refine bodyPost_ret (results_ct rfl _ _ (w.heap.size + 1) 31 #[.int .i64 T.field, .int .i64 (T.left - 1), .int .i64 T.run, .int .i64 T.level, .int .i64 T.crc, .int .i64 T.acc, .bool T.ext, .int .u32 T.id, .bool T.rtr, .int .i64 T.dlc,(.slice A5 T.data.length c5)] (0,0) _ rfl HX.out Tryd.underlying31 rfl (by kernel_rfl)) rfl ?_
  rw [HSTEP.out]
  exact ⟨_,rfl,Kd.R_mono (HTZ.out.R HW8.out.row (fun k hk e => by omega)) (fun _ _ => trivial),HBz.out⟩
set_option maxHeartbeats 1000000 in
set_option maxRecDepth 100000 in
theorem scan_other_0_0 (w : World) (s : SS) (A : Option Addr) (c : Nat) (hr : Kd.C (Kd.int .u8) w A s.data.length s.data) (hc : s.data.length ≤ c) (hG : LaidRows w) (hs : Sound s) (i0 : 0 ≤ s.id) (hby : ∀ x ∈ s.data,0 ≤ x ∧ x < 256) (h5 : s.run ≠ 5) (hv : verdictV s 0 = 0) (hlim : s.field = 14 → s.left ≠ 1) (hq : s.field ≤ 10) (hr0 : 0 < s.run) (hlv : s.level ≠ 0) (hcr : s.field = 10) :
  Calls Tryd.prog 8 #[.agg #[.int .i64 s.field, .int .i64 s.left, .int .i64 s.run, .int .i64 s.level, .int .i64 s.crc, .int .i64 s.acc, .bool s.ext, .int .u32 s.id, .bool s.rtr, .int .i64 s.dlc,(.slice A s.data.length c)], .int .i64 0] w fun e w' => ∃ v : Value,e = .returned (.tuple #[.agg #[.int .i64 (stepS (takeS (crcT (runS s 0) 0) 0)).field, .int .i64 (stepS (takeS (crcT (runS s 0) 0) 0)).left, .int .i64 (stepS (takeS (crcT (runS s 0) 0) 0)).run, .int .i64 (stepS (takeS (crcT (runS s 0) 0) 0)).level, .int .i64 (stepS (takeS (crcT (runS s 0) 0) 0)).crc, .int .i64 (stepS (takeS (crcT (runS s 0) 0) 0)).acc, .bool (stepS (takeS (crcT (runS s 0) 0) 0)).ext, .int .u32 (stepS (takeS (crcT (runS s 0) 0) 0)).id, .bool (stepS (takeS (crcT (runS s 0) 0) 0)).rtr, .int .i64 (stepS (takeS (crcT (runS s 0) 0) 0)).dlc,v], .int .i64 0]) ∧ Kd.R (Kd.int .u8) 5 w' w.heap.size (fun _ => True) v (stepS (takeS (crcT (runS s 0) 0) 0)).data ∧ Below w.heap.size w w':=by
 have HR:=Lib.hid hr
 have HC:=Lib.hid hc
 have HG:=Lib.hid hG
 clear hr hc hG
 have HS:=Lib.hid hs
 have HCP : Hid (impl_copyFrame.f s.ext s.id s.rtr s.dlc s.data = some (s.ext,s.id,s.rtr,s.dlc,s.data)):=Lib.hid (copy_eq (by have:=hs.dl;omega))
 have HSB : Hid (Sound s):=Lib.hid hs
 have HVB : Hid (verdictV s 0 = 0):=Lib.hid hv
 have b5 : (s.run == 5) = false:=beq_eq_false_iff_ne.mpr h5
 have r0:=hs.r0
 have r1:=hs.r1
 have f0:=hs.f0
 have bl : (s.level == 0) = false:=beq_eq_false_iff_ne.mpr hlv
 have HE1 : Hid (crcT (runS s 0) 0 = ({ s with run:=1,level:=0 } : SS)):=Lib.hid (by rw [show runS s 0 = ({ s with run:=1,level:=0 } : SS) by unfold runS;rw [if_neg (by omega),if_neg (fun h => hlv h.2)]];unfold crcT;rw [if_neg (show ¬ s.field ≤ 9 by omega)])
 have HOK : Hid (SOk ({ s with run:=1,level:=0 } : SS)):=Lib.hid (by have h:=hs.ok i0 hby;exact ⟨h.f0,h.f1,h.l0,h.l1,h.d0,h.d1,h.i0,h.i1,h.a0,h.a1,h.ne,h.by_,h.dl⟩)
 have HTK : Hid ((takeS ({ s with run:=1,level:=0 } : SS) 0).field = s.field ∧ (takeS ({ s with run:=1,level:=0 } : SS) 0).left = s.left):=Lib.hid (takeS_keep _ _)
 have HTD : Hid (0 ≤ (takeS ({ s with run:=1,level:=0 } : SS) 0).dlc ∧ (takeS ({ s with run:=1,level:=0 } : SS) 0).dlc ≤ 15):=Lib.hid (takeS_dlc (s := { s with run:=1,level:=0 }) hs.d0 hs.d1 _)
 have HF : Hid (1 ≤ s.field ∧ s.field ≤ 14 ∧ 1 ≤ s.left ∧ s.left ≤ 64 ∧ (s.field = 14 → s.left ≠ 1)):=Lib.hid ⟨hs.f0,hs.f1,hs.l0,by have:=(sizeF_le hs.f0 hs.f1 hs.d0).2;have:=hs.l1;omega,hlim⟩
 have hcr2 : 10 ≤ s.field:=by omega
 clear hcr
 clear hs i0 hby h5 hv hlim hlv
 rw [HE1.out]
 generalize hTT : takeS ({ s with run:=1,level:=0 } : SS) 0 = T at HTK HTD ⊢
 have HTT:=Lib.hid hTT
 clear hTT
 go_enter Tryd.func8,Tryd.ntmps8
 go_wp2_with (fail)
 (refine (sound_yes s HSB.out A c _ (Kd.C_alloc (Kd.C_alloc HR.out _) _) HC.out (HG.out.alloc _ |>.alloc _)).mono ?_;rintro e w1 ⟨rfl,hb1⟩;have HW1:=Lib.hid ((SbIn.start w s (.slice A s.data.length c)).step hb1);clear hb1)
 have hx6:=cS6 HW1.out.box
 have hx7:=cS7 HW1.out.box
 have hx8:=cS8 HW1.out.box
 have hx9:=cS9 HW1.out.box
 have hx10:=cS10 HW1.out.box
 go_wp2_with (fail)
 clear hx6 hx7 hx8 hx9 hx10
 (refine (impl_copyFrame.calls s.ext s.id s.rtr s.dlc A c s.data s.ext s.id s.rtr s.dlc s.data _ (Kd.C_below HR.out HW1.out.below) HC.out HCP.out).mono ?_;rintro e w2 ⟨v2,rfl,hr2,hb2⟩;obtain ⟨A2,c2,rfl⟩:=Kd.R_slice hr2;have HR2:=Lib.hid hr2;have HB2:=Lib.hid hb2;have HW2:=Lib.hid (HW1.out.step hb2);clear hr2 hb2)
 go_wp2_with ((with_reducible refine gate_store (t:=29) (p:=22) rfl ?_);refine store_box rfl rfl rfl (g:=w.heap.size) (j:=6) (cs := #[.int .i64 s.field, .int .i64 s.left, .int .i64 s.run, .int .i64 s.level, .int .i64 s.crc, .int .i64 s.acc, .bool s.ext, .int .u32 s.id, .bool s.rtr, .int .i64 s.dlc,(.slice A s.data.length c)]) (cs' := #[.int .i64 s.field, .int .i64 s.left, .int .i64 s.run, .int .i64 s.level, .int .i64 s.crc, .int .i64 s.acc, .bool s.ext, .int .u32 s.id, .bool s.rtr, .int .i64 s.dlc,(.slice A2 s.data.length c2)]) (T:=31) (u := .agg #[.bool s.ext, .int .u32 s.id, .bool s.rtr, .int .i64 s.dlc,(.slice A2 s.data.length c2)]) (seg := [.bool s.ext, .int .u32 s.id, .bool s.rtr, .int .i64 s.dlc,(.slice A2 s.data.length c2)]) rfl rfl HW2.out.box rfl (by kernel_rfl) rfl rfl rfl ?_;intro w3 hx hT;have HW3:=Lib.hid (SbO.ofCopy HW1.out HB2.out HR2.out hx hT);clear hx hT;obtain ⟨hc0,hc1,hc2,hc3,hc4,hc5,hc6,hc7,hc8,hc9,hc10⟩:=cSall HW3.out.box;obtain ⟨hf0,hf1,hf2,hf3,hf4,hf5,hf6,hf7,hf8,hf9,hf10⟩:=fSall HW3.out.box)
 (refine (verdict_run s 0 0 (by omega) HSB.out.l0 HVB.out (.slice A2 s.data.length c2) _).mono ?_;rintro e w4 ⟨rfl,hb4⟩;have HW4:=Lib.hid (HW3.out.step hb4);clear hb4;clear hc0 hc1 hc2 hc3 hc4 hc5 hc6 hc7 hc8 hc9 hc10 hf0 hf1 hf2 hf3 hf4 hf5 hf6 hf7 hf8 hf9 hf10;obtain ⟨hc0,hc1,hc2,hc3,hc4,hc5,hc6,hc7,hc8,hc9,hc10⟩:=cSall HW4.out.box;obtain ⟨hf0,hf1,hf2,hf3,hf4,hf5,hf6,hf7,hf8,hf9,hf10⟩:=fSall HW4.out.box)
 go_wp2_with (fail)
 have HW6 : Hid (SbO w _ ({ s with run:=1,level:=0 } : SS) _):=Lib.hid ((HW4.out.put (setS2 HW4.out.box (1)) rfl).put (setS3 (setS2 HW4.out.box (1)) (0)) rfl)
 (refine (impl_Scan_plain.calls w.heap.size _ ({ s with run:=1,level:=0 } : SS) 0 (by omega) (fun k => w.heap.size + 1 < k) w _ HW6.out.toIn (Nat.le_refl _) (by (try simp only []);omega) HOK.out).mono ?_;intro e w5 hE;obtain ⟨v5,h7⟩:=HW6.out.ofEnd hE;have hret:=hE.ret;subst hret;clear hE)
 rw [HTT.out] at h7
 obtain ⟨A5,c5,rfl,hC5,hc5⟩:=h7.open_
 have HW7:=Lib.hid h7
 clear h7 hC5 hc5 HTT HW6 HE1 HOK
 clear hc0 hc1 hc2 hc3 hc4 hc5 hc6 hc7 hc8 hc9 hc10 hf0 hf1 hf2 hf3 hf4 hf5 hf6 hf7 hf8 hf9 hf10
 obtain ⟨hc0,hc1,hc2,hc3,hc4,hc5,hc6,hc7,hc8,hc9,hc10⟩:=cSall HW7.out.box
 obtain ⟨hf0,hf1,hf2,hf3,hf4,hf5,hf6,hf7,hf8,hf9,hf10⟩:=fSall HW7.out.box
 have tl0 : 1 ≤ T.left:=by have:=HTK.out;have:=HF.out;omega
 have tl1 : T.left ≤ 64:=by have:=HTK.out;have:=HF.out;omega
 have HW8:=Lib.hid (HW7.out.put (setS1 HW7.out.box (T.left - 1)) rfl)
 by_cases hL : T.left - 1 = 0
 ·have bL : (T.left - 1 == 0) = true:=beq_iff_eq.mpr hL
  have HL0:=Lib.hid hL
  have HSTEP : Hid (stepS T = enterS T (afterF T)):=Lib.hid (by unfold stepS;rw [if_pos hL])
  have HAR : Hid (1 ≤ afterF T ∧ afterF T ≤ 14):=Lib.hid (by have h1:=HTK.out;have h2:=HF.out;exact afterF_range (by omega) (by omega))
  have HAI : Hid (impl_fieldAfter.f T.field T.ext T.id T.rtr T.dlc T.data = some (afterF T)):=Lib.hid (by have h1:=HTK.out;have h2:=HF.out;exact afterI (by omega) (by omega))
  have HSI : Hid (impl_fieldSize.f (afterF T) T.ext T.id T.rtr T.dlc T.data = some (sizeF { T with field:=afterF T })):=Lib.hid (sizeI (s := { T with field:=afterF T }) HAR.out.1 HAR.out.2 HTD.out.1 HTD.out.2)
  generalize afterF T = AF at HSTEP HAR HAI HSI
  clear hL
  go_wp2_with (fail)
  (refine (impl_fieldAfter.calls T.field T.ext T.id T.rtr T.dlc A5 c5 T.data AF _ (Kd.R_reads' HW8.out.row).2.2 (Kd.R_reads' HW8.out.row).2.1 HAI.out (HG.out.next HW8.out.below)).mono ?_;rintro e w9 ⟨rfl,hb9⟩;have HW9:=Lib.hid (HW8.out.step hb9);clear hb9;clear hc0 hc1 hc2 hc3 hc4 hc5 hc6 hc7 hc8 hc9 hc10 hf0 hf1 hf2 hf3 hf4 hf5 hf6 hf7 hf8 hf9 hf10;obtain ⟨hc0,hc1,hc2,hc3,hc4,hc5,hc6,hc7,hc8,hc9,hc10⟩:=cSall HW9.out.box;obtain ⟨hf0,hf1,hf2,hf3,hf4,hf5,hf6,hf7,hf8,hf9,hf10⟩:=fSall HW9.out.box)
  have HW10:=Lib.hid (HW9.out.put (setS0 HW9.out.box AF) rfl)
  go_wp2_with (fail)
  (refine (impl_fieldSize.calls AF T.ext T.id T.rtr T.dlc A5 c5 T.data _ _ (Kd.R_reads' HW10.out.row).2.2 (Kd.R_reads' HW10.out.row).2.1 HSI.out (HG.out.next HW10.out.below)).mono ?_;rintro e w11 ⟨rfl,hb11⟩;have HW11:=Lib.hid (HW10.out.step hb11);clear hb11;clear hc0 hc1 hc2 hc3 hc4 hc5 hc6 hc7 hc8 hc9 hc10 hf0 hf1 hf2 hf3 hf4 hf5 hf6 hf7 hf8 hf9 hf10;obtain ⟨hc0,hc1,hc2,hc3,hc4,hc5,hc6,hc7,hc8,hc9,hc10⟩:=cSall HW11.out.box;obtain ⟨hf0,hf1,hf2,hf3,hf4,hf5,hf6,hf7,hf8,hf9,hf10⟩:=fSall HW11.out.box)
  generalize hSZ : sizeF { T with field:=AF } = SZ at HSI ⊢
  have HSZ:=Lib.hid hSZ
  clear hSZ
  have HW12:=Lib.hid (HW11.out.put (setS1 HW11.out.box SZ) rfl)
  by_cases h9 : AF = 9
  ·have b9 : (AF == 9) = true:=beq_iff_eq.mpr h9
   have HH9:=Lib.hid h9
   clear h9
   have hns:=HW12.out.nil
   have hsz12 : (w11.setCell ⟨w.heap.size,1,none⟩ (.int .i64 SZ)).heap.size = w11.heap.size:=by simp [World.setCell]
   rw [hsz12] at hns
   have HW13:=Lib.hid hns
   clear hns hsz12
   obtain ⟨hg0,hg1,hg2,hg3,hg4,hg5,hg6,hg7,hg8,hg9,hg10⟩:=cSall (blk_alloc HW12.out.box (.cells #[] 5))
   have hgf:=fS (blk_alloc HW12.out.box (.cells #[] 5)) 10
   go_wp2_with ((with_reducible refine gate_store (t:=31) (p:=4) rfl ?_);refine store_box rfl rfl rfl (g:=w.heap.size + 1) (j:=0) (cs := #[.int .i64 0, .int .i64 0, .int .i64 0, .int .i64 0, .int .i64 0, .int .i64 0, .bool false, .int .u32 0, .bool false, .int .i64 0, .slice none 0 0]) (cs' := #[.int .i64 AF, .int .i64 SZ, .int .i64 T.run, .int .i64 T.level, .int .i64 T.crc, .int .i64 T.acc, .bool T.ext, .int .u32 T.id, .bool T.rtr, .int .i64 T.dlc,(.slice (some ⟨w11.heap.size,0,none⟩) 0 0)]) (T:=31) (u := .agg #[.int .i64 AF, .int .i64 SZ, .int .i64 T.run, .int .i64 T.level, .int .i64 T.crc, .int .i64 T.acc, .bool T.ext, .int .u32 T.id, .bool T.rtr, .int .i64 T.dlc,(.slice (some ⟨w11.heap.size,0,none⟩) 0 0)]) (seg := [.int .i64 AF, .int .i64 SZ, .int .i64 T.run, .int .i64 T.level, .int .i64 T.crc, .int .i64 T.acc, .bool T.ext, .int .u32 T.id, .bool T.rtr, .int .i64 T.dlc,(.slice (some ⟨w11.heap.size,0,none⟩) 0 0)]) rfl rfl HW13.out.res rfl (by kernel_rfl) rfl rfl rfl ?_;intro wz hx hT;have HX:=Lib.hid hx;have HTZ:=Lib.hid hT;have HBz:=Lib.hid (hT.below HW13.out.below HW13.out.below.size (fun k hk => by omega));clear hx hT)
   refine bodyPost_ret (results_ct rfl _ _ (w.heap.size + 1) 31 #[.int .i64 AF, .int .i64 SZ, .int .i64 T.run, .int .i64 T.level, .int .i64 T.crc, .int .i64 T.acc, .bool T.ext, .int .u32 T.id, .bool T.rtr, .int .i64 T.dlc,(.slice (some ⟨w11.heap.size,0,none⟩) 0 0)] (0,0) _ rfl HX.out Tryd.underlying31 rfl (by kernel_rfl)) rfl ?_
   rw [HSTEP.out,show enterS T AF = { T with field:=AF,left:=SZ,data := [] } by unfold enterS;rw [if_pos HH9.out,HSZ.out]]
   exact ⟨_,rfl,Kd.R_mono (HTZ.out.R HW13.out.row (fun k hk e => by omega)) (fun _ _ => trivial),HBz.out⟩
  ·have b9 : (AF == 9) = false:=beq_eq_false_iff_ne.mpr h9
   have HH9:=Lib.hid h9
   clear h9
   go_wp2_with ((with_reducible refine gate_store (t:=31) (p:=4) rfl ?_);refine store_box rfl rfl rfl (g:=w.heap.size + 1) (j:=0) (cs := #[.int .i64 0, .int .i64 0, .int .i64 0, .int .i64 0, .int .i64 0, .int .i64 0, .bool false, .int .u32 0, .bool false, .int .i64 0, .slice none 0 0]) (cs' := #[.int .i64 AF, .int .i64 SZ, .int .i64 T.run, .int .i64 T.level, .int .i64 T.crc, .int .i64 T.acc, .bool T.ext, .int .u32 T.id, .bool T.rtr, .int .i64 T.dlc,(.slice A5 T.data.length c5)]) (T:=31) (u := .agg #[.int .i64 AF, .int .i64 SZ, .int .i64 T.run, .int .i64 T.level, .int .i64 T.crc, .int .i64 T.acc, .bool T.ext, .int .u32 T.id, .bool T.rtr, .int .i64 T.dlc,(.slice A5 T.data.length c5)]) (seg := [.int .i64 AF, .int .i64 SZ, .int .i64 T.run, .int .i64 T.level, .int .i64 T.crc, .int .i64 T.acc, .bool T.ext, .int .u32 T.id, .bool T.rtr, .int .i64 T.dlc,(.slice A5 T.data.length c5)]) rfl rfl HW12.out.res rfl (by kernel_rfl) rfl rfl rfl ?_;intro wz hx hT;have HX:=Lib.hid hx;have HTZ:=Lib.hid hT;have HBz:=Lib.hid (hT.below HW12.out.below HW12.out.below.size (fun k hk => by omega));clear hx hT)
   refine bodyPost_ret (results_ct rfl _ _ (w.heap.size + 1) 31 #[.int .i64 AF, .int .i64 SZ, .int .i64 T.run, .int .i64 T.level, .int .i64 T.crc, .int .i64 T.acc, .bool T.ext, .int .u32 T.id, .bool T.rtr, .int .i64 T.dlc,(.slice A5 T.data.length c5)] (0,0) _ rfl HX.out Tryd.underlying31 rfl (by kernel_rfl)) rfl ?_
   rw [HSTEP.out,show enterS T AF = { T with field:=AF,left:=SZ } by unfold enterS;rw [if_neg HH9.out,HSZ.out]]
   exact ⟨_,rfl,Kd.R_mono (HTZ.out.R HW12.out.row (fun k hk e => by omega)) (fun _ _ => trivial),HBz.out⟩
 ·have bL : (T.left - 1 == 0) = false:=beq_eq_false_iff_ne.mpr hL
  have HL0:=Lib.hid hL
  have HSTEP : Hid (stepS T = { T with left:=T.left - 1 }):=Lib.hid (by unfold stepS;rw [if_neg hL])
  clear hL
  go_wp2_with ((with_reducible refine gate_store (t:=31) (p:=4) rfl ?_);refine store_box rfl rfl rfl (g:=w.heap.size + 1) (j:=0) (cs := #[.int .i64 0, .int .i64 0, .int .i64 0, .int .i64 0, .int .i64 0, .int .i64 0, .bool false, .int .u32 0, .bool false, .int .i64 0, .slice none 0 0]) (cs' := #[.int .i64 T.field, .int .i64 (T.left - 1), .int .i64 T.run, .int .i64 T.level, .int .i64 T.crc, .int .i64 T.acc, .bool T.ext, .int .u32 T.id, .bool T.rtr, .int .i64 T.dlc,(.slice A5 T.data.length c5)]) (T:=31) (u := .agg #[.int .i64 T.field, .int .i64 (T.left - 1), .int .i64 T.run, .int .i64 T.level, .int .i64 T.crc, .int .i64 T.acc, .bool T.ext, .int .u32 T.id, .bool T.rtr, .int .i64 T.dlc,(.slice A5 T.data.length c5)]) (seg := [.int .i64 T.field, .int .i64 (T.left - 1), .int .i64 T.run, .int .i64 T.level, .int .i64 T.crc, .int .i64 T.acc, .bool T.ext, .int .u32 T.id, .bool T.rtr, .int .i64 T.dlc,(.slice A5 T.data.length c5)]) rfl rfl HW8.out.res rfl (by kernel_rfl) rfl rfl rfl ?_;intro wz hx hT;have HX:=Lib.hid hx;have HTZ:=Lib.hid hT;have HBz:=Lib.hid (hT.below HW8.out.below HW8.out.below.size (fun k hk => by omega));clear hx hT)
  refine bodyPost_ret (results_ct rfl _ _ (w.heap.size + 1) 31 #[.int .i64 T.field, .int .i64 (T.left - 1), .int .i64 T.run, .int .i64 T.level, .int .i64 T.crc, .int .i64 T.acc, .bool T.ext, .int .u32 T.id, .bool T.rtr, .int .i64 T.dlc,(.slice A5 T.data.length c5)] (0,0) _ rfl HX.out Tryd.underlying31 rfl (by kernel_rfl)) rfl ?_
  rw [HSTEP.out]
  exact ⟨_,rfl,Kd.R_mono (HTZ.out.R HW8.out.row (fun k hk e => by omega)) (fun _ _ => trivial),HBz.out⟩
set_option maxHeartbeats 1000000 in
set_option maxRecDepth 100000 in
theorem scan_other_1_0 (w : World) (s : SS) (A : Option Addr) (c : Nat) (hr : Kd.C (Kd.int .u8) w A s.data.length s.data) (hc : s.data.length ≤ c) (hG : LaidRows w) (hs : Sound s) (i0 : 0 ≤ s.id) (hby : ∀ x ∈ s.data,0 ≤ x ∧ x < 256) (h5 : s.run ≠ 5) (hv : verdictV s 1 = 0) (hlim : s.field = 14 → s.left ≠ 1) (hq : s.field ≤ 10) (hr0 : 0 < s.run) (hlv : s.level ≠ 1) (hcr : s.field = 10) :
  Calls Tryd.prog 8 #[.agg #[.int .i64 s.field, .int .i64 s.left, .int .i64 s.run, .int .i64 s.level, .int .i64 s.crc, .int .i64 s.acc, .bool s.ext, .int .u32 s.id, .bool s.rtr, .int .i64 s.dlc,(.slice A s.data.length c)], .int .i64 1] w fun e w' => ∃ v : Value,e = .returned (.tuple #[.agg #[.int .i64 (stepS (takeS (crcT (runS s 1) 1) 1)).field, .int .i64 (stepS (takeS (crcT (runS s 1) 1) 1)).left, .int .i64 (stepS (takeS (crcT (runS s 1) 1) 1)).run, .int .i64 (stepS (takeS (crcT (runS s 1) 1) 1)).level, .int .i64 (stepS (takeS (crcT (runS s 1) 1) 1)).crc, .int .i64 (stepS (takeS (crcT (runS s 1) 1) 1)).acc, .bool (stepS (takeS (crcT (runS s 1) 1) 1)).ext, .int .u32 (stepS (takeS (crcT (runS s 1) 1) 1)).id, .bool (stepS (takeS (crcT (runS s 1) 1) 1)).rtr, .int .i64 (stepS (takeS (crcT (runS s 1) 1) 1)).dlc,v], .int .i64 0]) ∧ Kd.R (Kd.int .u8) 5 w' w.heap.size (fun _ => True) v (stepS (takeS (crcT (runS s 1) 1) 1)).data ∧ Below w.heap.size w w':=by
 have HR:=Lib.hid hr
 have HC:=Lib.hid hc
 have HG:=Lib.hid hG
 clear hr hc hG
 have HS:=Lib.hid hs
 have HCP : Hid (impl_copyFrame.f s.ext s.id s.rtr s.dlc s.data = some (s.ext,s.id,s.rtr,s.dlc,s.data)):=Lib.hid (copy_eq (by have:=hs.dl;omega))
 have HSB : Hid (Sound s):=Lib.hid hs
 have HVB : Hid (verdictV s 1 = 0):=Lib.hid hv
 have b5 : (s.run == 5) = false:=beq_eq_false_iff_ne.mpr h5
 have r0:=hs.r0
 have r1:=hs.r1
 have f0:=hs.f0
 have bl : (s.level == 1) = false:=beq_eq_false_iff_ne.mpr hlv
 have HE1 : Hid (crcT (runS s 1) 1 = ({ s with run:=1,level:=1 } : SS)):=Lib.hid (by rw [show runS s 1 = ({ s with run:=1,level:=1 } : SS) by unfold runS;rw [if_neg (by omega),if_neg (fun h => hlv h.2)]];unfold crcT;rw [if_neg (show ¬ s.field ≤ 9 by omega)])
 have HOK : Hid (SOk ({ s with run:=1,level:=1 } : SS)):=Lib.hid (by have h:=hs.ok i0 hby;exact ⟨h.f0,h.f1,h.l0,h.l1,h.d0,h.d1,h.i0,h.i1,h.a0,h.a1,h.ne,h.by_,h.dl⟩)
 have HTK : Hid ((takeS ({ s with run:=1,level:=1 } : SS) 1).field = s.field ∧ (takeS ({ s with run:=1,level:=1 } : SS) 1).left = s.left):=Lib.hid (takeS_keep _ _)
 have HTD : Hid (0 ≤ (takeS ({ s with run:=1,level:=1 } : SS) 1).dlc ∧ (takeS ({ s with run:=1,level:=1 } : SS) 1).dlc ≤ 15):=Lib.hid (takeS_dlc (s := { s with run:=1,level:=1 }) hs.d0 hs.d1 _)
 have HF : Hid (1 ≤ s.field ∧ s.field ≤ 14 ∧ 1 ≤ s.left ∧ s.left ≤ 64 ∧ (s.field = 14 → s.left ≠ 1)):=Lib.hid ⟨hs.f0,hs.f1,hs.l0,by have:=(sizeF_le hs.f0 hs.f1 hs.d0).2;have:=hs.l1;omega,hlim⟩
 have hcr2 : 10 ≤ s.field:=by omega
 clear hcr
 clear hs i0 hby h5 hv hlim hlv
 rw [HE1.out]
 generalize hTT : takeS ({ s with run:=1,level:=1 } : SS) 1 = T at HTK HTD ⊢
 have HTT:=Lib.hid hTT
 clear hTT
 go_enter Tryd.func8,Tryd.ntmps8
 go_wp2_with (fail)
 (refine (sound_yes s HSB.out A c _ (Kd.C_alloc (Kd.C_alloc HR.out _) _) HC.out (HG.out.alloc _ |>.alloc _)).mono ?_;rintro e w1 ⟨rfl,hb1⟩;have HW1:=Lib.hid ((SbIn.start w s (.slice A s.data.length c)).step hb1);clear hb1)
 have hx6:=cS6 HW1.out.box
 have hx7:=cS7 HW1.out.box
 have hx8:=cS8 HW1.out.box
 have hx9:=cS9 HW1.out.box
 have hx10:=cS10 HW1.out.box
 go_wp2_with (fail)
 clear hx6 hx7 hx8 hx9 hx10
 (refine (impl_copyFrame.calls s.ext s.id s.rtr s.dlc A c s.data s.ext s.id s.rtr s.dlc s.data _ (Kd.C_below HR.out HW1.out.below) HC.out HCP.out).mono ?_;rintro e w2 ⟨v2,rfl,hr2,hb2⟩;obtain ⟨A2,c2,rfl⟩:=Kd.R_slice hr2;have HR2:=Lib.hid hr2;have HB2:=Lib.hid hb2;have HW2:=Lib.hid (HW1.out.step hb2);clear hr2 hb2)
 go_wp2_with ((with_reducible refine gate_store (t:=29) (p:=22) rfl ?_);refine store_box rfl rfl rfl (g:=w.heap.size) (j:=6) (cs := #[.int .i64 s.field, .int .i64 s.left, .int .i64 s.run, .int .i64 s.level, .int .i64 s.crc, .int .i64 s.acc, .bool s.ext, .int .u32 s.id, .bool s.rtr, .int .i64 s.dlc,(.slice A s.data.length c)]) (cs' := #[.int .i64 s.field, .int .i64 s.left, .int .i64 s.run, .int .i64 s.level, .int .i64 s.crc, .int .i64 s.acc, .bool s.ext, .int .u32 s.id, .bool s.rtr, .int .i64 s.dlc,(.slice A2 s.data.length c2)]) (T:=31) (u := .agg #[.bool s.ext, .int .u32 s.id, .bool s.rtr, .int .i64 s.dlc,(.slice A2 s.data.length c2)]) (seg := [.bool s.ext, .int .u32 s.id, .bool s.rtr, .int .i64 s.dlc,(.slice A2 s.data.length c2)]) rfl rfl HW2.out.box rfl (by kernel_rfl) rfl rfl rfl ?_;intro w3 hx hT;have HW3:=Lib.hid (SbO.ofCopy HW1.out HB2.out HR2.out hx hT);clear hx hT;obtain ⟨hc0,hc1,hc2,hc3,hc4,hc5,hc6,hc7,hc8,hc9,hc10⟩:=cSall HW3.out.box;obtain ⟨hf0,hf1,hf2,hf3,hf4,hf5,hf6,hf7,hf8,hf9,hf10⟩:=fSall HW3.out.box)
 (refine (verdict_run s 1 0 (by omega) HSB.out.l0 HVB.out (.slice A2 s.data.length c2) _).mono ?_;rintro e w4 ⟨rfl,hb4⟩;have HW4:=Lib.hid (HW3.out.step hb4);clear hb4;clear hc0 hc1 hc2 hc3 hc4 hc5 hc6 hc7 hc8 hc9 hc10 hf0 hf1 hf2 hf3 hf4 hf5 hf6 hf7 hf8 hf9 hf10;obtain ⟨hc0,hc1,hc2,hc3,hc4,hc5,hc6,hc7,hc8,hc9,hc10⟩:=cSall HW4.out.box;obtain ⟨hf0,hf1,hf2,hf3,hf4,hf5,hf6,hf7,hf8,hf9,hf10⟩:=fSall HW4.out.box)
 go_wp2_with (fail)
 have HW6 : Hid (SbO w _ ({ s with run:=1,level:=1 } : SS) _):=Lib.hid ((HW4.out.put (setS2 HW4.out.box (1)) rfl).put (setS3 (setS2 HW4.out.box (1)) (1)) rfl)
 (refine (impl_Scan_plain.calls w.heap.size _ ({ s with run:=1,level:=1 } : SS) 1 (by omega) (fun k => w.heap.size + 1 < k) w _ HW6.out.toIn (Nat.le_refl _) (by (try simp only []);omega) HOK.out).mono ?_;intro e w5 hE;obtain ⟨v5,h7⟩:=HW6.out.ofEnd hE;have hret:=hE.ret;subst hret;clear hE)
 rw [HTT.out] at h7
 obtain ⟨A5,c5,rfl,hC5,hc5⟩:=h7.open_
 have HW7:=Lib.hid h7
 clear h7 hC5 hc5 HTT HW6 HE1 HOK
 clear hc0 hc1 hc2 hc3 hc4 hc5 hc6 hc7 hc8 hc9 hc10 hf0 hf1 hf2 hf3 hf4 hf5 hf6 hf7 hf8 hf9 hf10
 obtain ⟨hc0,hc1,hc2,hc3,hc4,hc5,hc6,hc7,hc8,hc9,hc10⟩:=cSall HW7.out.box
 obtain ⟨hf0,hf1,hf2,hf3,hf4,hf5,hf6,hf7,hf8,hf9,hf10⟩:=fSall HW7.out.box
 have tl0 : 1 ≤ T.left:=by have:=HTK.out;have:=HF.out;omega
 have tl1 : T.left ≤ 64:=by have:=HTK.out;have:=HF.out;omega
 have HW8:=Lib.hid (HW7.out.put (setS1 HW7.out.box (T.left - 1)) rfl)
 by_cases hL : T.left - 1 = 0
 ·have bL : (T.left - 1 == 0) = true:=beq_iff_eq.mpr hL
  have HL0:=Lib.hid hL
  have HSTEP : Hid (stepS T = enterS T (afterF T)):=Lib.hid (by unfold stepS;rw [if_pos hL])
  have HAR : Hid (1 ≤ afterF T ∧ afterF T ≤ 14):=Lib.hid (by have h1:=HTK.out;have h2:=HF.out;exact afterF_range (by omega) (by omega))
  have HAI : Hid (impl_fieldAfter.f T.field T.ext T.id T.rtr T.dlc T.data = some (afterF T)):=Lib.hid (by have h1:=HTK.out;have h2:=HF.out;exact afterI (by omega) (by omega))
  have HSI : Hid (impl_fieldSize.f (afterF T) T.ext T.id T.rtr T.dlc T.data = some (sizeF { T with field:=afterF T })):=Lib.hid (sizeI (s := { T with field:=afterF T }) HAR.out.1 HAR.out.2 HTD.out.1 HTD.out.2)
  generalize afterF T = AF at HSTEP HAR HAI HSI
  clear hL
  go_wp2_with (fail)
  (refine (impl_fieldAfter.calls T.field T.ext T.id T.rtr T.dlc A5 c5 T.data AF _ (Kd.R_reads' HW8.out.row).2.2 (Kd.R_reads' HW8.out.row).2.1 HAI.out (HG.out.next HW8.out.below)).mono ?_;rintro e w9 ⟨rfl,hb9⟩;have HW9:=Lib.hid (HW8.out.step hb9);clear hb9;clear hc0 hc1 hc2 hc3 hc4 hc5 hc6 hc7 hc8 hc9 hc10 hf0 hf1 hf2 hf3 hf4 hf5 hf6 hf7 hf8 hf9 hf10;obtain ⟨hc0,hc1,hc2,hc3,hc4,hc5,hc6,hc7,hc8,hc9,hc10⟩:=cSall HW9.out.box;obtain ⟨hf0,hf1,hf2,hf3,hf4,hf5,hf6,hf7,hf8,hf9,hf10⟩:=fSall HW9.out.box)
  have HW10:=Lib.hid (HW9.out.put (setS0 HW9.out.box AF) rfl)
  go_wp2_with (fail)
  (refine (impl_fieldSize.calls AF T.ext T.id T.rtr T.dlc A5 c5 T.data _ _ (Kd.R_reads' HW10.out.row).2.2 (Kd.R_reads' HW10.out.row).2.1 HSI.out (HG.out.next HW10.out.below)).mono ?_;rintro e w11 ⟨rfl,hb11⟩;have HW11:=Lib.hid (HW10.out.step hb11);clear hb11;clear hc0 hc1 hc2 hc3 hc4 hc5 hc6 hc7 hc8 hc9 hc10 hf0 hf1 hf2 hf3 hf4 hf5 hf6 hf7 hf8 hf9 hf10;obtain ⟨hc0,hc1,hc2,hc3,hc4,hc5,hc6,hc7,hc8,hc9,hc10⟩:=cSall HW11.out.box;obtain ⟨hf0,hf1,hf2,hf3,hf4,hf5,hf6,hf7,hf8,hf9,hf10⟩:=fSall HW11.out.box)
  generalize hSZ : sizeF { T with field:=AF } = SZ at HSI ⊢
  have HSZ:=Lib.hid hSZ
  clear hSZ
  have HW12:=Lib.hid (HW11.out.put (setS1 HW11.out.box SZ) rfl)
  by_cases h9 : AF = 9
  ·have b9 : (AF == 9) = true:=beq_iff_eq.mpr h9
   have HH9:=Lib.hid h9
   clear h9
   have hns:=HW12.out.nil
   have hsz12 : (w11.setCell ⟨w.heap.size,1,none⟩ (.int .i64 SZ)).heap.size = w11.heap.size:=by simp [World.setCell]
   rw [hsz12] at hns
   have HW13:=Lib.hid hns
   clear hns hsz12
   obtain ⟨hg0,hg1,hg2,hg3,hg4,hg5,hg6,hg7,hg8,hg9,hg10⟩:=cSall (blk_alloc HW12.out.box (.cells #[] 5))
   have hgf:=fS (blk_alloc HW12.out.box (.cells #[] 5)) 10
   go_wp2_with ((with_reducible refine gate_store (t:=31) (p:=4) rfl ?_);refine store_box rfl rfl rfl (g:=w.heap.size + 1) (j:=0) (cs := #[.int .i64 0, .int .i64 0, .int .i64 0, .int .i64 0, .int .i64 0, .int .i64 0, .bool false, .int .u32 0, .bool false, .int .i64 0, .slice none 0 0]) (cs' := #[.int .i64 AF, .int .i64 SZ, .int .i64 T.run, .int .i64 T.level, .int .i64 T.crc, .int .i64 T.acc, .bool T.ext, .int .u32 T.id, .bool T.rtr, .int .i64 T.dlc,(.slice (some ⟨w11.heap.size,0,none⟩) 0 0)]) (T:=31) (u := .agg #[.int .i64 AF, .int .i64 SZ, .int .i64 T.run, .int .i64 T.level, .int .i64 T.crc, .int .i64 T.acc, .bool T.ext, .int .u32 T.id, .bool T.rtr, .int .i64 T.dlc,(.slice (some ⟨w11.heap.size,0,none⟩) 0 0)]) (seg := [.int .i64 AF, .int .i64 SZ, .int .i64 T.run, .int .i64 T.level, .int .i64 T.crc, .int .i64 T.acc, .bool T.ext, .int .u32 T.id, .bool T.rtr, .int .i64 T.dlc,(.slice (some ⟨w11.heap.size,0,none⟩) 0 0)]) rfl rfl HW13.out.res rfl (by kernel_rfl) rfl rfl rfl ?_;intro wz hx hT;have HX:=Lib.hid hx;have HTZ:=Lib.hid hT;have HBz:=Lib.hid (hT.below HW13.out.below HW13.out.below.size (fun k hk => by omega));clear hx hT)
   refine bodyPost_ret (results_ct rfl _ _ (w.heap.size + 1) 31 #[.int .i64 AF, .int .i64 SZ, .int .i64 T.run, .int .i64 T.level, .int .i64 T.crc, .int .i64 T.acc, .bool T.ext, .int .u32 T.id, .bool T.rtr, .int .i64 T.dlc,(.slice (some ⟨w11.heap.size,0,none⟩) 0 0)] (0,0) _ rfl HX.out Tryd.underlying31 rfl (by kernel_rfl)) rfl ?_
   rw [HSTEP.out,show enterS T AF = { T with field:=AF,left:=SZ,data := [] } by unfold enterS;rw [if_pos HH9.out,HSZ.out]]
   exact ⟨_,rfl,Kd.R_mono (HTZ.out.R HW13.out.row (fun k hk e => by omega)) (fun _ _ => trivial),HBz.out⟩
  ·have b9 : (AF == 9) = false:=beq_eq_false_iff_ne.mpr h9
   have HH9:=Lib.hid h9
   clear h9
   go_wp2_with ((with_reducible refine gate_store (t:=31) (p:=4) rfl ?_);refine store_box rfl rfl rfl (g:=w.heap.size + 1) (j:=0) (cs := #[.int .i64 0, .int .i64 0, .int .i64 0, .int .i64 0, .int .i64 0, .int .i64 0, .bool false, .int .u32 0, .bool false, .int .i64 0, .slice none 0 0]) (cs' := #[.int .i64 AF, .int .i64 SZ, .int .i64 T.run, .int .i64 T.level, .int .i64 T.crc, .int .i64 T.acc, .bool T.ext, .int .u32 T.id, .bool T.rtr, .int .i64 T.dlc,(.slice A5 T.data.length c5)]) (T:=31) (u := .agg #[.int .i64 AF, .int .i64 SZ, .int .i64 T.run, .int .i64 T.level, .int .i64 T.crc, .int .i64 T.acc, .bool T.ext, .int .u32 T.id, .bool T.rtr, .int .i64 T.dlc,(.slice A5 T.data.length c5)]) (seg := [.int .i64 AF, .int .i64 SZ, .int .i64 T.run, .int .i64 T.level, .int .i64 T.crc, .int .i64 T.acc, .bool T.ext, .int .u32 T.id, .bool T.rtr, .int .i64 T.dlc,(.slice A5 T.data.length c5)]) rfl rfl HW12.out.res rfl (by kernel_rfl) rfl rfl rfl ?_;intro wz hx hT;have HX:=Lib.hid hx;have HTZ:=Lib.hid hT;have HBz:=Lib.hid (hT.below HW12.out.below HW12.out.below.size (fun k hk => by omega));clear hx hT)
   refine bodyPost_ret (results_ct rfl _ _ (w.heap.size + 1) 31 #[.int .i64 AF, .int .i64 SZ, .int .i64 T.run, .int .i64 T.level, .int .i64 T.crc, .int .i64 T.acc, .bool T.ext, .int .u32 T.id, .bool T.rtr, .int .i64 T.dlc,(.slice A5 T.data.length c5)] (0,0) _ rfl HX.out Tryd.underlying31 rfl (by kernel_rfl)) rfl ?_
   rw [HSTEP.out,show enterS T AF = { T with field:=AF,left:=SZ } by unfold enterS;rw [if_neg HH9.out,HSZ.out]]
   exact ⟨_,rfl,Kd.R_mono (HTZ.out.R HW12.out.row (fun k hk e => by omega)) (fun _ _ => trivial),HBz.out⟩
 ·have bL : (T.left - 1 == 0) = false:=beq_eq_false_iff_ne.mpr hL
  have HL0:=Lib.hid hL
  have HSTEP : Hid (stepS T = { T with left:=T.left - 1 }):=Lib.hid (by unfold stepS;rw [if_neg hL])
  clear hL
  go_wp2_with ((with_reducible refine gate_store (t:=31) (p:=4) rfl ?_);refine store_box rfl rfl rfl (g:=w.heap.size + 1) (j:=0) (cs := #[.int .i64 0, .int .i64 0, .int .i64 0, .int .i64 0, .int .i64 0, .int .i64 0, .bool false, .int .u32 0, .bool false, .int .i64 0, .slice none 0 0]) (cs' := #[.int .i64 T.field, .int .i64 (T.left - 1), .int .i64 T.run, .int .i64 T.level, .int .i64 T.crc, .int .i64 T.acc, .bool T.ext, .int .u32 T.id, .bool T.rtr, .int .i64 T.dlc,(.slice A5 T.data.length c5)]) (T:=31) (u := .agg #[.int .i64 T.field, .int .i64 (T.left - 1), .int .i64 T.run, .int .i64 T.level, .int .i64 T.crc, .int .i64 T.acc, .bool T.ext, .int .u32 T.id, .bool T.rtr, .int .i64 T.dlc,(.slice A5 T.data.length c5)]) (seg := [.int .i64 T.field, .int .i64 (T.left - 1), .int .i64 T.run, .int .i64 T.level, .int .i64 T.crc, .int .i64 T.acc, .bool T.ext, .int .u32 T.id, .bool T.rtr, .int .i64 T.dlc,(.slice A5 T.data.length c5)]) rfl rfl HW8.out.res rfl (by kernel_rfl) rfl rfl rfl ?_;intro wz hx hT;have HX:=Lib.hid hx;have HTZ:=Lib.hid hT;have HBz:=Lib.hid (hT.below HW8.out.below HW8.out.below.size (fun k hk => by omega));clear hx hT)
  refine bodyPost_ret (results_ct rfl _ _ (w.heap.size + 1) 31 #[.int .i64 T.field, .int .i64 (T.left - 1), .int .i64 T.run, .int .i64 T.level, .int .i64 T.crc, .int .i64 T.acc, .bool T.ext, .int .u32 T.id, .bool T.rtr, .int .i64 T.dlc,(.slice A5 T.data.length c5)] (0,0) _ rfl HX.out Tryd.underlying31 rfl (by kernel_rfl)) rfl ?_
  rw [HSTEP.out]
  exact ⟨_,rfl,Kd.R_mono (HTZ.out.R HW8.out.row (fun k hk e => by omega)) (fun _ _ => trivial),HBz.out⟩
set_option maxHeartbeats 1000000 in
set_option maxRecDepth 100000 in
theorem scan_first_crc_0_0 (w : World) (s : SS) (A : Option Addr) (c : Nat) (hr : Kd.C (Kd.int .u8) w A s.data.length s.data) (hc : s.data.length ≤ c) (hG : LaidRows w) (hs : Sound s) (i0 : 0 ≤ s.id) (hby : ∀ x ∈ s.data,0 ≤ x ∧ x < 256) (h5 : s.run ≠ 5) (hv : verdictV s 0 = 0) (hlim : s.field = 14 → s.left ≠ 1) (hq : s.field ≤ 10) (hr0 : s.run = 0) (hcr : s.field ≤ 9) :
  Calls Tryd.prog 8 #[.agg #[.int .i64 s.field, .int .i64 s.left, .int .i64 s.run, .int .i64 s.level, .int .i64 s.crc, .int .i64 s.acc, .bool s.ext, .int .u32 s.id, .bool s.rtr, .int .i64 s.dlc,(.slice A s.data.length c)], .int .i64 0] w fun e w' => ∃ v : Value,e = .returned (.tuple #[.agg #[.int .i64 (stepS (takeS (crcT (runS s 0) 0) 0)).field, .int .i64 (stepS (takeS (crcT (runS s 0) 0) 0)).left, .int .i64 (stepS (takeS (crcT (runS s 0) 0) 0)).run, .int .i64 (stepS (takeS (crcT (runS s 0) 0) 0)).level, .int .i64 (stepS (takeS (crcT (runS s 0) 0) 0)).crc, .int .i64 (stepS (takeS (crcT (runS s 0) 0) 0)).acc, .bool (stepS (takeS (crcT (runS s 0) 0) 0)).ext, .int .u32 (stepS (takeS (crcT (runS s 0) 0) 0)).id, .bool (stepS (takeS (crcT (runS s 0) 0) 0)).rtr, .int .i64 (stepS (takeS (crcT (runS s 0) 0) 0)).dlc,v], .int .i64 0]) ∧ Kd.R (Kd.int .u8) 5 w' w.heap.size (fun _ => True) v (stepS (takeS (crcT (runS s 0) 0) 0)).data ∧ Below w.heap.size w w':=by
 have HR:=Lib.hid hr
 have HC:=Lib.hid hc
 have HG:=Lib.hid hG
 clear hr hc hG
 have HS:=Lib.hid hs
 have HCP : Hid (impl_copyFrame.f s.ext s.id s.rtr s.dlc s.data = some (s.ext,s.id,s.rtr,s.dlc,s.data)):=Lib.hid (copy_eq (by have:=hs.dl;omega))
 have HSB : Hid (Sound s):=Lib.hid hs
 have HVB : Hid (verdictV s 0 = 0):=Lib.hid hv
 have b5 : (s.run == 5) = false:=beq_eq_false_iff_ne.mpr h5
 have r0:=hs.r0
 have r1:=hs.r1
 have f0:=hs.f0
 have HE1 : Hid (crcT (runS s 0) 0 = ({ s with run:=1,level:=0,crc:=crcI s.crc 0 } : SS)):=Lib.hid (by rw [show runS s 0 = ({ s with run:=1,level:=0 } : SS) by unfold runS;rw [if_neg (by omega),if_neg (by omega)]];unfold crcT;rw [if_pos (show s.field ≤ 9 from hcr)])
 have HOK : Hid (SOk ({ s with run:=1,level:=0,crc:=crcI s.crc 0 } : SS)):=Lib.hid (by have h:=hs.ok i0 hby;exact ⟨h.f0,h.f1,h.l0,h.l1,h.d0,h.d1,h.i0,h.i1,h.a0,h.a1,h.ne,h.by_,h.dl⟩)
 have HTK : Hid ((takeS ({ s with run:=1,level:=0,crc:=crcI s.crc 0 } : SS) 0).field = s.field ∧ (takeS ({ s with run:=1,level:=0,crc:=crcI s.crc 0 } : SS) 0).left = s.left):=Lib.hid (takeS_keep _ _)
 have HTD : Hid (0 ≤ (takeS ({ s with run:=1,level:=0,crc:=crcI s.crc 0 } : SS) 0).dlc ∧ (takeS ({ s with run:=1,level:=0,crc:=crcI s.crc 0 } : SS) 0).dlc ≤ 15):=Lib.hid (takeS_dlc (s := { s with run:=1,level:=0,crc:=crcI s.crc 0 }) hs.d0 hs.d1 _)
 have HF : Hid (1 ≤ s.field ∧ s.field ≤ 14 ∧ 1 ≤ s.left ∧ s.left ≤ 64 ∧ (s.field = 14 → s.left ≠ 1)):=Lib.hid ⟨hs.f0,hs.f1,hs.l0,by have:=(sizeF_le hs.f0 hs.f1 hs.d0).2;have:=hs.l1;omega,hlim⟩
 have hrz : s.run ≤ 0:=by omega
 clear r0 r1 hr0
 clear hs i0 hby h5 hv hlim
 rw [HE1.out]
 generalize hTT : takeS ({ s with run:=1,level:=0,crc:=crcI s.crc 0 } : SS) 0 = T at HTK HTD ⊢
 have HTT:=Lib.hid hTT
 clear hTT
 go_enter Tryd.func8,Tryd.ntmps8
 go_wp2_with (fail)
 (refine (sound_yes s HSB.out A c _ (Kd.C_alloc (Kd.C_alloc HR.out _) _) HC.out (HG.out.alloc _ |>.alloc _)).mono ?_;rintro e w1 ⟨rfl,hb1⟩;have HW1:=Lib.hid ((SbIn.start w s (.slice A s.data.length c)).step hb1);clear hb1)
 have hx6:=cS6 HW1.out.box
 have hx7:=cS7 HW1.out.box
 have hx8:=cS8 HW1.out.box
 have hx9:=cS9 HW1.out.box
 have hx10:=cS10 HW1.out.box
 go_wp2_with (fail)
 clear hx6 hx7 hx8 hx9 hx10
 (refine (impl_copyFrame.calls s.ext s.id s.rtr s.dlc A c s.data s.ext s.id s.rtr s.dlc s.data _ (Kd.C_below HR.out HW1.out.below) HC.out HCP.out).mono ?_;rintro e w2 ⟨v2,rfl,hr2,hb2⟩;obtain ⟨A2,c2,rfl⟩:=Kd.R_slice hr2;have HR2:=Lib.hid hr2;have HB2:=Lib.hid hb2;have HW2:=Lib.hid (HW1.out.step hb2);clear hr2 hb2)
 go_wp2_with ((with_reducible refine gate_store (t:=29) (p:=22) rfl ?_);refine store_box rfl rfl rfl (g:=w.heap.size) (j:=6) (cs := #[.int .i64 s.field, .int .i64 s.left, .int .i64 s.run, .int .i64 s.level, .int .i64 s.crc, .int .i64 s.acc, .bool s.ext, .int .u32 s.id, .bool s.rtr, .int .i64 s.dlc,(.slice A s.data.length c)]) (cs' := #[.int .i64 s.field, .int .i64 s.left, .int .i64 s.run, .int .i64 s.level, .int .i64 s.crc, .int .i64 s.acc, .bool s.ext, .int .u32 s.id, .bool s.rtr, .int .i64 s.dlc,(.slice A2 s.data.length c2)]) (T:=31) (u := .agg #[.bool s.ext, .int .u32 s.id, .bool s.rtr, .int .i64 s.dlc,(.slice A2 s.data.length c2)]) (seg := [.bool s.ext, .int .u32 s.id, .bool s.rtr, .int .i64 s.dlc,(.slice A2 s.data.length c2)]) rfl rfl HW2.out.box rfl (by kernel_rfl) rfl rfl rfl ?_;intro w3 hx hT;have HW3:=Lib.hid (SbO.ofCopy HW1.out HB2.out HR2.out hx hT);clear hx hT;obtain ⟨hc0,hc1,hc2,hc3,hc4,hc5,hc6,hc7,hc8,hc9,hc10⟩:=cSall HW3.out.box;obtain ⟨hf0,hf1,hf2,hf3,hf4,hf5,hf6,hf7,hf8,hf9,hf10⟩:=fSall HW3.out.box)
 (refine (verdict_run s 0 0 (by omega) HSB.out.l0 HVB.out (.slice A2 s.data.length c2) _).mono ?_;rintro e w4 ⟨rfl,hb4⟩;have HW4:=Lib.hid (HW3.out.step hb4);clear hb4;clear hc0 hc1 hc2 hc3 hc4 hc5 hc6 hc7 hc8 hc9 hc10 hf0 hf1 hf2 hf3 hf4 hf5 hf6 hf7 hf8 hf9 hf10;obtain ⟨hc0,hc1,hc2,hc3,hc4,hc5,hc6,hc7,hc8,hc9,hc10⟩:=cSall HW4.out.box;obtain ⟨hf0,hf1,hf2,hf3,hf4,hf5,hf6,hf7,hf8,hf9,hf10⟩:=fSall HW4.out.box)
 go_wp2_with (first | (go_at_call 30;refine (impl_crcBit.same _ _ _).mono ?_;rintro e w' ⟨rfl,rfl⟩))
 have HW6 : Hid (SbO w _ ({ s with run:=1,level:=0,crc:=crcI s.crc 0 } : SS) _):=Lib.hid (((HW4.out.put (setS2 HW4.out.box (1)) rfl).put (setS3 (setS2 HW4.out.box (1)) (0)) rfl).put (setS4 (setS3 (setS2 HW4.out.box (1)) (0)) (crcI s.crc 0)) rfl)
 (refine (impl_Scan_plain.calls w.heap.size _ ({ s with run:=1,level:=0,crc:=crcI s.crc 0 } : SS) 0 (by omega) (fun k => w.heap.size + 1 < k) w _ HW6.out.toIn (Nat.le_refl _) (by (try simp only []);omega) HOK.out).mono ?_;intro e w5 hE;obtain ⟨v5,h7⟩:=HW6.out.ofEnd hE;have hret:=hE.ret;subst hret;clear hE)
 rw [HTT.out] at h7
 obtain ⟨A5,c5,rfl,hC5,hc5⟩:=h7.open_
 have HW7:=Lib.hid h7
 clear h7 hC5 hc5 HTT HW6 HE1 HOK
 clear hc0 hc1 hc2 hc3 hc4 hc5 hc6 hc7 hc8 hc9 hc10 hf0 hf1 hf2 hf3 hf4 hf5 hf6 hf7 hf8 hf9 hf10
 obtain ⟨hc0,hc1,hc2,hc3,hc4,hc5,hc6,hc7,hc8,hc9,hc10⟩:=cSall HW7.out.box
 obtain ⟨hf0,hf1,hf2,hf3,hf4,hf5,hf6,hf7,hf8,hf9,hf10⟩:=fSall HW7.out.box
 have tl0 : 1 ≤ T.left:=by have:=HTK.out;have:=HF.out;omega
 have tl1 : T.left ≤ 64:=by have:=HTK.out;have:=HF.out;omega
 have HW8:=Lib.hid (HW7.out.put (setS1 HW7.out.box (T.left - 1)) rfl)
 by_cases hL : T.left - 1 = 0
 ·have bL : (T.left - 1 == 0) = true:=beq_iff_eq.mpr hL
  have HL0:=Lib.hid hL
  have HSTEP : Hid (stepS T = enterS T (afterF T)):=Lib.hid (by unfold stepS;rw [if_pos hL])
  have HAR : Hid (1 ≤ afterF T ∧ afterF T ≤ 14):=Lib.hid (by have h1:=HTK.out;have h2:=HF.out;exact afterF_range (by omega) (by omega))
  have HAI : Hid (impl_fieldAfter.f T.field T.ext T.id T.rtr T.dlc T.data = some (afterF T)):=Lib.hid (by have h1:=HTK.out;have h2:=HF.out;exact afterI (by omega) (by omega))
  have HSI : Hid (impl_fieldSize.f (afterF T) T.ext T.id T.rtr T.dlc T.data = some (sizeF { T with field:=afterF T })):=Lib.hid (sizeI (s := { T with field:=afterF T }) HAR.out.1 HAR.out.2 HTD.out.1 HTD.out.2)
  generalize afterF T = AF at HSTEP HAR HAI HSI
  clear hL
  go_wp2_with (fail)
  (refine (impl_fieldAfter.calls T.field T.ext T.id T.rtr T.dlc A5 c5 T.data AF _ (Kd.R_reads' HW8.out.row).2.2 (Kd.R_reads' HW8.out.row).2.1 HAI.out (HG.out.next HW8.out.below)).mono ?_;rintro e w9 ⟨rfl,hb9⟩;have HW9:=Lib.hid (HW8.out.step hb9);clear hb9;clear hc0 hc1 hc2 hc3 hc4 hc5 hc6 hc7 hc8 hc9 hc10 hf0 hf1 hf2 hf3 hf4 hf5 hf6 hf7 hf8 hf9 hf10;obtain ⟨hc0,hc1,hc2,hc3,hc4,hc5,hc6,hc7,hc8,hc9,hc10⟩:=cSall HW9.out.box;obtain ⟨hf0,hf1,hf2,hf3,hf4,hf5,hf6,hf7,hf8,hf9,hf10⟩:=fSall HW9.out.box)
  have HW10:=Lib.hid (HW9.out.put (setS0 HW9.out.box AF) rfl)
  go_wp2_with (fail)
  (refine (impl_fieldSize.calls AF T.ext T.id T.rtr T.dlc A5 c5 T.data _ _ (Kd.R_reads' HW10.out.row).2.2 (Kd.R_reads' HW10.out.row).2.1 HSI.out (HG.out.next HW10.out.below)).mono ?_;rintro e w11 ⟨rfl,hb11⟩;have HW11:=Lib.hid (HW10.out.step hb11);clear hb11;clear hc0 hc1 hc2 hc3 hc4 hc5 hc6 hc7 hc8 hc9 hc10 hf0 hf1 hf2 hf3 hf4 hf5 hf6 hf7 hf8 hf9 hf10;obtain ⟨hc0,hc1,hc2,hc3,hc4,hc5,hc6,hc7,hc8,hc9,hc10⟩:=cSall HW11.out.box;obtain ⟨hf0,hf1,hf2,hf3,hf4,hf5,hf6,hf7,hf8,hf9,hf10⟩:=fSall HW11.out.box)
  generalize hSZ : sizeF { T with field:=AF } = SZ at HSI ⊢
  have HSZ:=Lib.hid hSZ
  clear hSZ
  have HW12:=Lib.hid (HW11.out.put (setS1 HW11.out.box SZ) rfl)
  by_cases h9 : AF = 9
  ·have b9 : (AF == 9) = true:=beq_iff_eq.mpr h9
   have HH9:=Lib.hid h9
   clear h9
   have hns:=HW12.out.nil
   have hsz12 : (w11.setCell ⟨w.heap.size,1,none⟩ (.int .i64 SZ)).heap.size = w11.heap.size:=by simp [World.setCell]
   rw [hsz12] at hns
   have HW13:=Lib.hid hns
   clear hns hsz12
   obtain ⟨hg0,hg1,hg2,hg3,hg4,hg5,hg6,hg7,hg8,hg9,hg10⟩:=cSall (blk_alloc HW12.out.box (.cells #[] 5))
   have hgf:=fS (blk_alloc HW12.out.box (.cells #[] 5)) 10
   go_wp2_with ((with_reducible refine gate_store (t:=31) (p:=4) rfl ?_);refine store_box rfl rfl rfl (g:=w.heap.size + 1) (j:=0) (cs := #[.int .i64 0, .int .i64 0, .int .i64 0, .int .i64 0, .int .i64 0, .int .i64 0, .bool false, .int .u32 0, .bool false, .int .i64 0, .slice none 0 0]) (cs' := #[.int .i64 AF, .int .i64 SZ, .int .i64 T.run, .int .i64 T.level, .int .i64 T.crc, .int .i64 T.acc, .bool T.ext, .int .u32 T.id, .bool T.rtr, .int .i64 T.dlc,(.slice (some ⟨w11.heap.size,0,none⟩) 0 0)]) (T:=31) (u := .agg #[.int .i64 AF, .int .i64 SZ, .int .i64 T.run, .int .i64 T.level, .int .i64 T.crc, .int .i64 T.acc, .bool T.ext, .int .u32 T.id, .bool T.rtr, .int .i64 T.dlc,(.slice (some ⟨w11.heap.size,0,none⟩) 0 0)]) (seg := [.int .i64 AF, .int .i64 SZ, .int .i64 T.run, .int .i64 T.level, .int .i64 T.crc, .int .i64 T.acc, .bool T.ext, .int .u32 T.id, .bool T.rtr, .int .i64 T.dlc,(.slice (some ⟨w11.heap.size,0,none⟩) 0 0)]) rfl rfl HW13.out.res rfl (by kernel_rfl) rfl rfl rfl ?_;intro wz hx hT;have HX:=Lib.hid hx;have HTZ:=Lib.hid hT;have HBz:=Lib.hid (hT.below HW13.out.below HW13.out.below.size (fun k hk => by omega));clear hx hT)
   refine bodyPost_ret (results_ct rfl _ _ (w.heap.size + 1) 31 #[.int .i64 AF, .int .i64 SZ, .int .i64 T.run, .int .i64 T.level, .int .i64 T.crc, .int .i64 T.acc, .bool T.ext, .int .u32 T.id, .bool T.rtr, .int .i64 T.dlc,(.slice (some ⟨w11.heap.size,0,none⟩) 0 0)] (0,0) _ rfl HX.out Tryd.underlying31 rfl (by kernel_rfl)) rfl ?_
   rw [HSTEP.out,show enterS T AF = { T with field:=AF,left:=SZ,data := [] } by unfold enterS;rw [if_pos HH9.out,HSZ.out]]
   exact ⟨_,rfl,Kd.R_mono (HTZ.out.R HW13.out.row (fun k hk e => by omega)) (fun _ _ => trivial),HBz.out⟩
  ·have b9 : (AF == 9) = false:=beq_eq_false_iff_ne.mpr h9
   have HH9:=Lib.hid h9
   clear h9
   go_wp2_with ((with_reducible refine gate_store (t:=31) (p:=4) rfl ?_);refine store_box rfl rfl rfl (g:=w.heap.size + 1) (j:=0) (cs := #[.int .i64 0, .int .i64 0, .int .i64 0, .int .i64 0, .int .i64 0, .int .i64 0, .bool false, .int .u32 0, .bool false, .int .i64 0, .slice none 0 0]) (cs' := #[.int .i64 AF, .int .i64 SZ, .int .i64 T.run, .int .i64 T.level, .int .i64 T.crc, .int .i64 T.acc, .bool T.ext, .int .u32 T.id, .bool T.rtr, .int .i64 T.dlc,(.slice A5 T.data.length c5)]) (T:=31) (u := .agg #[.int .i64 AF, .int .i64 SZ, .int .i64 T.run, .int .i64 T.level, .int .i64 T.crc, .int .i64 T.acc, .bool T.ext, .int .u32 T.id, .bool T.rtr, .int .i64 T.dlc,(.slice A5 T.data.length c5)]) (seg := [.int .i64 AF, .int .i64 SZ, .int .i64 T.run, .int .i64 T.level, .int .i64 T.crc, .int .i64 T.acc, .bool T.ext, .int .u32 T.id, .bool T.rtr, .int .i64 T.dlc,(.slice A5 T.data.length c5)]) rfl rfl HW12.out.res rfl (by kernel_rfl) rfl rfl rfl ?_;intro wz hx hT;have HX:=Lib.hid hx;have HTZ:=Lib.hid hT;have HBz:=Lib.hid (hT.below HW12.out.below HW12.out.below.size (fun k hk => by omega));clear hx hT)
   refine bodyPost_ret (results_ct rfl _ _ (w.heap.size + 1) 31 #[.int .i64 AF, .int .i64 SZ, .int .i64 T.run, .int .i64 T.level, .int .i64 T.crc, .int .i64 T.acc, .bool T.ext, .int .u32 T.id, .bool T.rtr, .int .i64 T.dlc,(.slice A5 T.data.length c5)] (0,0) _ rfl HX.out Tryd.underlying31 rfl (by kernel_rfl)) rfl ?_
   rw [HSTEP.out,show enterS T AF = { T with field:=AF,left:=SZ } by unfold enterS;rw [if_neg HH9.out,HSZ.out]]
   exact ⟨_,rfl,Kd.R_mono (HTZ.out.R HW12.out.row (fun k hk e => by omega)) (fun _ _ => trivial),HBz.out⟩
 ·have bL : (T.left - 1 == 0) = false:=beq_eq_false_iff_ne.mpr hL
  have HL0:=Lib.hid hL
  have HSTEP : Hid (stepS T = { T with left:=T.left - 1 }):=Lib.hid (by unfold stepS;rw [if_neg hL])
  clear hL
  go_wp2_with ((with_reducible refine gate_store (t:=31) (p:=4) rfl ?_);refine store_box rfl rfl rfl (g:=w.heap.size + 1) (j:=0) (cs := #[.int .i64 0, .int .i64 0, .int .i64 0, .int .i64 0, .int .i64 0, .int .i64 0, .bool false, .int .u32 0, .bool false, .int .i64 0, .slice none 0 0]) (cs' := #[.int .i64 T.field, .int .i64 (T.left - 1), .int .i64 T.run, .int .i64 T.level, .int .i64 T.crc, .int .i64 T.acc, .bool T.ext, .int .u32 T.id, .bool T.rtr, .int .i64 T.dlc,(.slice A5 T.data.length c5)]) (T:=31) (u := .agg #[.int .i64 T.field, .int .i64 (T.left - 1), .int .i64 T.run, .int .i64 T.level, .int .i64 T.crc, .int .i64 T.acc, .bool T.ext, .int .u32 T.id, .bool T.rtr, .int .i64 T.dlc,(.slice A5 T.data.length c5)]) (seg := [.int .i64 T.field, .int .i64 (T.left - 1), .int .i64 T.run, .int .i64 T.level, .int .i64 T.crc, .int .i64 T.acc, .bool T.ext, .int .u32 T.id, .bool T.rtr, .int .i64 T.dlc,(.slice A5 T.data.length c5)]) rfl rfl HW8.out.res rfl (by kernel_rfl) rfl rfl rfl ?_;intro wz hx hT;have HX:=Lib.hid hx;have HTZ:=Lib.hid hT;have HBz:=Lib.hid (hT.below HW8.out.below HW8.out.below.size (fun k hk => by omega));clear hx hT)
  refine bodyPost_ret (results_ct rfl _ _ (w.heap.size + 1) 31 #[.int .i64 T.field, .int .i64 (T.left - 1), .int .i64 T.run, .int .i64 T.level, .int .i64 T.crc, .int .i64 T.acc, .bool T.ext, .int .u32 T.id, .bool T.rtr, .int .i64 T.dlc,(.slice A5 T.data.length c5)] (0,0) _ rfl HX.out Tryd.underlying31 rfl (by kernel_rfl)) rfl ?_
  rw [HSTEP.out]
  exact ⟨_,rfl,Kd.R_mono (HTZ.out.R HW8.out.row (fun k hk e => by omega)) (fun _ _ => trivial),HBz.out⟩
set_option maxHeartbeats 1000000 in
set_option maxRecDepth 100000 in
theorem scan_first_crc_1_0 (w : World) (s : SS) (A : Option Addr) (c : Nat) (hr : Kd.C (Kd.int .u8) w A s.data.length s.data) (hc : s.data.length ≤ c) (hG : LaidRows w) (hs : Sound s) (i0 : 0 ≤ s.id) (hby : ∀ x ∈ s.data,0 ≤ x ∧ x < 256) (h5 : s.run ≠ 5) (hv : verdictV s 1 = 0) (hlim : s.field = 14 → s.left ≠ 1) (hq : s.field ≤ 10) (hr0 : s.run = 0) (hcr : s.field ≤ 9) :
  Calls Tryd.prog 8 #[.agg #[.int .i64 s.field, .int .i64 s.left, .int .i64 s.run, .int .i64 s.level, .int .i64 s.crc, .int .i64 s.acc, .bool s.ext, .int .u32 s.id, .bool s.rtr, .int .i64 s.dlc,(.slice A s.data.length c)], .int .i64 1] w fun e w' => ∃ v : Value,e = .returned (.tuple #[.agg #[.int .i64 (stepS (takeS (crcT (runS s 1) 1) 1)).field, .int .i64 (stepS (takeS (crcT (runS s 1) 1) 1)).left, .int .i64 (stepS (takeS (crcT (runS s 1) 1) 1)).run, .int .i64 (stepS (takeS (crcT (runS s 1) 1) 1)).level, .int .i64 (stepS (takeS (crcT (runS s 1) 1) 1)).crc, .int .i64 (stepS (takeS (crcT (runS s 1) 1) 1)).acc, .bool (stepS (takeS (crcT (runS s 1) 1) 1)).ext, .int .u32 (stepS (takeS (crcT (runS s 1) 1) 1)).id, .bool (stepS (takeS (crcT (runS s 1) 1) 1)).rtr, .int .i64 (stepS (takeS (crcT (runS s 1) 1) 1)).dlc,v], .int .i64 0]) ∧ Kd.R (Kd.int .u8) 5 w' w.heap.size (fun _ => True) v (stepS (takeS (crcT (runS s 1) 1) 1)).data ∧ Below w.heap.size w w':=by
 have HR:=Lib.hid hr
 have HC:=Lib.hid hc
 have HG:=Lib.hid hG
 clear hr hc hG
 have HS:=Lib.hid hs
 have HCP : Hid (impl_copyFrame.f s.ext s.id s.rtr s.dlc s.data = some (s.ext,s.id,s.rtr,s.dlc,s.data)):=Lib.hid (copy_eq (by have:=hs.dl;omega))
 have HSB : Hid (Sound s):=Lib.hid hs
 have HVB : Hid (verdictV s 1 = 0):=Lib.hid hv
 have b5 : (s.run == 5) = false:=beq_eq_false_iff_ne.mpr h5
 have r0:=hs.r0
 have r1:=hs.r1
 have f0:=hs.f0
 have HE1 : Hid (crcT (runS s 1) 1 = ({ s with run:=1,level:=1,crc:=crcI s.crc 1 } : SS)):=Lib.hid (by rw [show runS s 1 = ({ s with run:=1,level:=1 } : SS) by unfold runS;rw [if_neg (by omega),if_neg (by omega)]];unfold crcT;rw [if_pos (show s.field ≤ 9 from hcr)])
 have HOK : Hid (SOk ({ s with run:=1,level:=1,crc:=crcI s.crc 1 } : SS)):=Lib.hid (by have h:=hs.ok i0 hby;exact ⟨h.f0,h.f1,h.l0,h.l1,h.d0,h.d1,h.i0,h.i1,h.a0,h.a1,h.ne,h.by_,h.dl⟩)
 have HTK : Hid ((takeS ({ s with run:=1,level:=1,crc:=crcI s.crc 1 } : SS) 1).field = s.field ∧ (takeS ({ s with run:=1,level:=1,crc:=crcI s.crc 1 } : SS) 1).left = s.left):=Lib.hid (takeS_keep _ _)
 have HTD : Hid (0 ≤ (takeS ({ s with run:=1,level:=1,crc:=crcI s.crc 1 } : SS) 1).dlc ∧ (takeS ({ s with run:=1,level:=1,crc:=crcI s.crc 1 } : SS) 1).dlc ≤ 15):=Lib.hid (takeS_dlc (s := { s with run:=1,level:=1,crc:=crcI s.crc 1 }) hs.d0 hs.d1 _)
 have HF : Hid (1 ≤ s.field ∧ s.field ≤ 14 ∧ 1 ≤ s.left ∧ s.left ≤ 64 ∧ (s.field = 14 → s.left ≠ 1)):=Lib.hid ⟨hs.f0,hs.f1,hs.l0,by have:=(sizeF_le hs.f0 hs.f1 hs.d0).2;have:=hs.l1;omega,hlim⟩
 have hrz : s.run ≤ 0:=by omega
 clear r0 r1 hr0
 clear hs i0 hby h5 hv hlim
 rw [HE1.out]
 generalize hTT : takeS ({ s with run:=1,level:=1,crc:=crcI s.crc 1 } : SS) 1 = T at HTK HTD ⊢
 have HTT:=Lib.hid hTT
 clear hTT
 go_enter Tryd.func8,Tryd.ntmps8
 go_wp2_with (fail)
 (refine (sound_yes s HSB.out A c _ (Kd.C_alloc (Kd.C_alloc HR.out _) _) HC.out (HG.out.alloc _ |>.alloc _)).mono ?_;rintro e w1 ⟨rfl,hb1⟩;have HW1:=Lib.hid ((SbIn.start w s (.slice A s.data.length c)).step hb1);clear hb1)
 have hx6:=cS6 HW1.out.box
 have hx7:=cS7 HW1.out.box
 have hx8:=cS8 HW1.out.box
 have hx9:=cS9 HW1.out.box
 have hx10:=cS10 HW1.out.box
 go_wp2_with (fail)
 clear hx6 hx7 hx8 hx9 hx10
 (refine (impl_copyFrame.calls s.ext s.id s.rtr s.dlc A c s.data s.ext s.id s.rtr s.dlc s.data _ (Kd.C_below HR.out HW1.out.below) HC.out HCP.out).mono ?_;rintro e w2 ⟨v2,rfl,hr2,hb2⟩;obtain ⟨A2,c2,rfl⟩:=Kd.R_slice hr2;have HR2:=Lib.hid hr2;have HB2:=Lib.hid hb2;have HW2:=Lib.hid (HW1.out.step hb2);clear hr2 hb2)
 go_wp2_with ((with_reducible refine gate_store (t:=29) (p:=22) rfl ?_);refine store_box rfl rfl rfl (g:=w.heap.size) (j:=6) (cs := #[.int .i64 s.field, .int .i64 s.left, .int .i64 s.run, .int .i64 s.level, .int .i64 s.crc, .int .i64 s.acc, .bool s.ext, .int .u32 s.id, .bool s.rtr, .int .i64 s.dlc,(.slice A s.data.length c)]) (cs' := #[.int .i64 s.field, .int .i64 s.left, .int .i64 s.run, .int .i64 s.level, .int .i64 s.crc, .int .i64 s.acc, .bool s.ext, .int .u32 s.id, .bool s.rtr, .int .i64 s.dlc,(.slice A2 s.data.length c2)]) (T:=31) (u := .agg #[.bool s.ext, .int .u32 s.id, .bool s.rtr, .int .i64 s.dlc,(.slice A2 s.data.length c2)]) (seg := [.bool s.ext, .int .u32 s.id, .bool s.rtr, .int .i64 s.dlc,(.slice A2 s.data.length c2)]) rfl rfl HW2.out.box rfl (by kernel_rfl) rfl rfl rfl ?_;intro w3 hx hT;have HW3:=Lib.hid (SbO.ofCopy HW1.out HB2.out HR2.out hx hT);clear hx hT;obtain ⟨hc0,hc1,hc2,hc3,hc4,hc5,hc6,hc7,hc8,hc9,hc10⟩:=cSall HW3.out.box;obtain ⟨hf0,hf1,hf2,hf3,hf4,hf5,hf6,hf7,hf8,hf9,hf10⟩:=fSall HW3.out.box)
 (refine (verdict_run s 1 0 (by omega) HSB.out.l0 HVB.out (.slice A2 s.data.length c2) _).mono ?_;rintro e w4 ⟨rfl,hb4⟩;have HW4:=Lib.hid (HW3.out.step hb4);clear hb4;clear hc0 hc1 hc2 hc3 hc4 hc5 hc6 hc7 hc8 hc9 hc10 hf0 hf1 hf2 hf3 hf4 hf5 hf6 hf7 hf8 hf9 hf10;obtain ⟨hc0,hc1,hc2,hc3,hc4,hc5,hc6,hc7,hc8,hc9,hc10⟩:=cSall HW4.out.box;obtain ⟨hf0,hf1,hf2,hf3,hf4,hf5,hf6,hf7,hf8,hf9,hf10⟩:=fSall HW4.out.box)
 go_wp2_with (first | (go_at_call 30;refine (impl_crcBit.same _ _ _).mono ?_;rintro e w' ⟨rfl,rfl⟩))
 have HW6 : Hid (SbO w _ ({ s with run:=1,level:=1,crc:=crcI s.crc 1 } : SS) _):=Lib.hid (((HW4.out.put (setS2 HW4.out.box (1)) rfl).put (setS3 (setS2 HW4.out.box (1)) (1)) rfl).put (setS4 (setS3 (setS2 HW4.out.box (1)) (1)) (crcI s.crc 1)) rfl)
 (refine (impl_Scan_plain.calls w.heap.size _ ({ s with run:=1,level:=1,crc:=crcI s.crc 1 } : SS) 1 (by omega) (fun k => w.heap.size + 1 < k) w _ HW6.out.toIn (Nat.le_refl _) (by (try simp only []);omega) HOK.out).mono ?_;intro e w5 hE;obtain ⟨v5,h7⟩:=HW6.out.ofEnd hE;have hret:=hE.ret;subst hret;clear hE)
 rw [HTT.out] at h7
 obtain ⟨A5,c5,rfl,hC5,hc5⟩:=h7.open_
 have HW7:=Lib.hid h7
 clear h7 hC5 hc5 HTT HW6 HE1 HOK
 clear hc0 hc1 hc2 hc3 hc4 hc5 hc6 hc7 hc8 hc9 hc10 hf0 hf1 hf2 hf3 hf4 hf5 hf6 hf7 hf8 hf9 hf10
 obtain ⟨hc0,hc1,hc2,hc3,hc4,hc5,hc6,hc7,hc8,hc9,hc10⟩:=cSall HW7.out.box
 obtain ⟨hf0,hf1,hf2,hf3,hf4,hf5,hf6,hf7,hf8,hf9,hf10⟩:=fSall HW7.out.box
 have tl0 : 1 ≤ T.left:=by have:=HTK.out;have:=HF.out;omega
 have tl1 : T.left ≤ 64:=by have:=HTK.out;have:=HF.out;omega
 have HW8:=Lib.hid (HW7.out.put (setS1 HW7.out.box (T.left - 1)) rfl)
 by_cases hL : T.left - 1 = 0
 ·have bL : (T.left - 1 == 0) = true:=beq_iff_eq.mpr hL
  have HL0:=Lib.hid hL
  have HSTEP : Hid (stepS T = enterS T (afterF T)):=Lib.hid (by unfold stepS;rw [if_pos hL])
  have HAR : Hid (1 ≤ afterF T ∧ afterF T ≤ 14):=Lib.hid (by have h1:=HTK.out;have h2:=HF.out;exact afterF_range (by omega) (by omega))
  have HAI : Hid (impl_fieldAfter.f T.field T.ext T.id T.rtr T.dlc T.data = some (afterF T)):=Lib.hid (by have h1:=HTK.out;have h2:=HF.out;exact afterI (by omega) (by omega))
  have HSI : Hid (impl_fieldSize.f (afterF T) T.ext T.id T.rtr T.dlc T.data = some (sizeF { T with field:=afterF T })):=Lib.hid (sizeI (s := { T with field:=afterF T }) HAR.out.1 HAR.out.2 HTD.out.1 HTD.out.2)
  generalize afterF T = AF at HSTEP HAR HAI HSI
  clear hL
  go_wp2_with (fail)
  (refine (impl_fieldAfter.calls T.field T.ext T.id T.rtr T.dlc A5 c5 T.data AF _ (Kd.R_reads' HW8.out.row).2.2 (Kd.R_reads' HW8.out.row).2.1 HAI.out (HG.out.next HW8.out.below)).mono ?_;rintro e w9 ⟨rfl,hb9⟩;have HW9:=Lib.hid (HW8.out.step hb9);clear hb9;clear hc0 hc1 hc2 hc3 hc4 hc5 hc6 hc7 hc8 hc9 hc10 hf0 hf1 hf2 hf3 hf4 hf5 hf6 hf7 hf8 hf9 hf10;obtain ⟨hc0,hc1,hc2,hc3,hc4,hc5,hc6,hc7,hc8,hc9,hc10⟩:=cSall HW9.out.box;obtain ⟨hf0,hf1,hf2,hf3,hf4,hf5,hf6,hf7,hf8,hf9,hf10⟩:=fSall HW9.out.box)
  have HW10:=Lib.hid (HW9.out.put (setS0 HW9.out.box AF) rfl)
  go_wp2_with (fail)
  (refine (impl_fieldSize.calls AF T.ext T.id T.rtr T.dlc A5 c5 T.data _ _ (Kd.R_reads' HW10.out.row).2.2 (Kd.R_reads' HW10.out.row).2.1 HSI.out (HG.out.next HW10.out.below)).mono ?_;rintro e w11 ⟨rfl,hb11⟩;have HW11:=Lib.hid (HW10.out.step hb11);clear hb11;clear hc0 hc1 hc2 hc3 hc4 hc5 hc6 hc7 hc8 hc9 hc10 hf0 hf1 hf2 hf3 hf4 hf5 hf6 hf7 hf8 hf9 hf10;obtain ⟨hc0,hc1,hc2,hc3,hc4,hc5,hc6,hc7,hc8,hc9,hc10⟩:=cSall HW11.out.box;obtain ⟨hf0,hf1,hf2,hf3,hf4,hf5,hf6,hf7,hf8,hf9,hf10⟩:=fSall HW11.out.box)
  generalize hSZ : sizeF { T with field:=AF } = SZ at HSI ⊢
  have HSZ:=Lib.hid hSZ
  clear hSZ
  have HW12:=Lib.hid (HW11.out.put (setS1 HW11.out.box SZ) rfl)
  by_cases h9 : AF = 9
  ·have b9 : (AF == 9) = true:=beq_iff_eq.mpr h9
   have HH9:=Lib.hid h9
   clear h9
   have hns:=HW12.out.nil
   have hsz12 : (w11.setCell ⟨w.heap.size,1,none⟩ (.int .i64 SZ)).heap.size = w11.heap.size:=by simp [World.setCell]
   rw [hsz12] at hns
   have HW13:=Lib.hid hns
   clear hns hsz12
   obtain ⟨hg0,hg1,hg2,hg3,hg4,hg5,hg6,hg7,hg8,hg9,hg10⟩:=cSall (blk_alloc HW12.out.box (.cells #[] 5))
   have hgf:=fS (blk_alloc HW12.out.box (.cells #[] 5)) 10
   go_wp2_with ((with_reducible refine gate_store (t:=31) (p:=4) rfl ?_);refine store_box rfl rfl rfl (g:=w.heap.size + 1) (j:=0) (cs := #[.int .i64 0, .int .i64 0, .int .i64 0, .int .i64 0, .int .i64 0, .int .i64 0, .bool false, .int .u32 0, .bool false, .int .i64 0, .slice none 0 0]) (cs' := #[.int .i64 AF, .int .i64 SZ, .int .i64 T.run, .int .i64 T.level, .int .i64 T.crc, .int .i64 T.acc, .bool T.ext, .int .u32 T.id, .bool T.rtr, .int .i64 T.dlc,(.slice (some ⟨w11.heap.size,0,none⟩) 0 0)]) (T:=31) (u := .agg #[.int .i64 AF, .int .i64 SZ, .int .i64 T.run, .int .i64 T.level, .int .i64 T.crc, .int .i64 T.acc, .bool T.ext, .int .u32 T.id, .bool T.rtr, .int .i64 T.dlc,(.slice (some ⟨w11.heap.size,0,none⟩) 0 0)]) (seg := [.int .i64 AF, .int .i64 SZ, .int .i64 T.run, .int .i64 T.level, .int .i64 T.crc, .int .i64 T.acc, .bool T.ext, .int .u32 T.id, .bool T.rtr, .int .i64 T.dlc,(.slice (some ⟨w11.heap.size,0,none⟩) 0 0)]) rfl rfl HW13.out.res rfl (by kernel_rfl) rfl rfl rfl ?_;intro wz hx hT;have HX:=Lib.hid hx;have HTZ:=Lib.hid hT;have HBz:=Lib.hid (hT.below HW13.out.below HW13.out.below.size (fun k hk => by omega));clear hx hT)
   refine bodyPost_ret (results_ct rfl _ _ (w.heap.size + 1) 31 #[.int .i64 AF, .int .i64 SZ, .int .i64 T.run, .int .i64 T.level, .int .i64 T.crc, .int .i64 T.acc, .bool T.ext, .int .u32 T.id, .bool T.rtr, .int .i64 T.dlc,(.slice (some ⟨w11.heap.size,0,none⟩) 0 0)] (0,0) _ rfl HX.out Tryd.underlying31 rfl (by kernel_rfl)) rfl ?_
   rw [HSTEP.out,show enterS T AF = { T with field:=AF,left:=SZ,data := [] } by unfold enterS;rw [if_pos HH9.out,HSZ.out]]
   exact ⟨_,rfl,Kd.R_mono (HTZ.out.R HW13.out.row (fun k hk e => by omega)) (fun _ _ => trivial),HBz.out⟩
  ·have b9 : (AF == 9) = false:=beq_eq_false_iff_ne.mpr h9
   have HH9:=Lib.hid h9
   clear h9
   go_wp2_with ((with_reducible refine gate_store (t:=31) (p:=4) rfl ?_);refine store_box rfl rfl rfl (g:=w.heap.size + 1) (j:=0) (cs := #[.int .i64 0, .int .i64 0, .int .i64 0, .int .i64 0, .int .i64 0, .int .i64 0, .bool false, .int .u32 0, .bool false, .int .i64 0, .slice none 0 0]) (cs' := #[.int .i64 AF, .int .i64 SZ, .int .i64 T.run, .int .i64 T.level, .int .i64 T.crc, .int .i64 T.acc, .bool T.ext, .int .u32 T.id, .bool T.rtr, .int .i64 T.dlc,(.slice A5 T.data.length c5)]) (T:=31) (u := .agg #[.int .i64 AF, .int .i64 SZ, .int .i64 T.run, .int .i64 T.level, .int .i64 T.crc, .int .i64 T.acc, .bool T.ext, .int .u32 T.id, .bool T.rtr, .int .i64 T.dlc,(.slice A5 T.data.length c5)]) (seg := [.int .i64 AF, .int .i64 SZ, .int .i64 T.run, .int .i64 T.level, .int .i64 T.crc, .int .i64 T.acc, .bool T.ext, .int .u32 T.id, .bool T.rtr, .int .i64 T.dlc,(.slice A5 T.data.length c5)]) rfl rfl HW12.out.res rfl (by kernel_rfl) rfl rfl rfl ?_;intro wz hx hT;have HX:=Lib.hid hx;have HTZ:=Lib.hid hT;have HBz:=Lib.hid (hT.below HW12.out.below HW12.out.below.size (fun k hk => by omega));clear hx hT)
   refine bodyPost_ret (results_ct rfl _ _ (w.heap.size + 1) 31 #[.int .i64 AF, .int .i64 SZ, .int .i64 T.run, .int .i64 T.level, .int .i64 T.crc, .int .i64 T.acc, .bool T.ext, .int .u32 T.id, .bool T.rtr, .int .i64 T.dlc,(.slice A5 T.data.length c5)] (0,0) _ rfl HX.out Tryd.underlying31 rfl (by kernel_rfl)) rfl ?_
   rw [HSTEP.out,show enterS T AF = { T with field:=AF,left:=SZ } by unfold enterS;rw [if_neg HH9.out,HSZ.out]]
   exact ⟨_,rfl,Kd.R_mono (HTZ.out.R HW12.out.row (fun k hk e => by omega)) (fun _ _ => trivial),HBz.out⟩
 ·have bL : (T.left - 1 == 0) = false:=beq_eq_false_iff_ne.mpr hL
  have HL0:=Lib.hid hL
  have HSTEP : Hid (stepS T = { T with left:=T.left - 1 }):=Lib.hid (by unfold stepS;rw [if_neg hL])
  clear hL
  go_wp2_with ((with_reducible refine gate_store (t:=31) (p:=4) rfl ?_);refine store_box rfl rfl rfl (g:=w.heap.size + 1) (j:=0) (cs := #[.int .i64 0, .int .i64 0, .int .i64 0, .int .i64 0, .int .i64 0, .int .i64 0, .bool false, .int .u32 0, .bool false, .int .i64 0, .slice none 0 0]) (cs' := #[.int .i64 T.field, .int .i64 (T.left - 1), .int .i64 T.run, .int .i64 T.level, .int .i64 T.crc, .int .i64 T.acc, .bool T.ext, .int .u32 T.id, .bool T.rtr, .int .i64 T.dlc,(.slice A5 T.data.length c5)]) (T:=31) (u := .agg #[.int .i64 T.field, .int .i64 (T.left - 1), .int .i64 T.run, .int .i64 T.level, .int .i64 T.crc, .int .i64 T.acc, .bool T.ext, .int .u32 T.id, .bool T.rtr, .int .i64 T.dlc,(.slice A5 T.data.length c5)]) (seg := [.int .i64 T.field, .int .i64 (T.left - 1), .int .i64 T.run, .int .i64 T.level, .int .i64 T.crc, .int .i64 T.acc, .bool T.ext, .int .u32 T.id, .bool T.rtr, .int .i64 T.dlc,(.slice A5 T.data.length c5)]) rfl rfl HW8.out.res rfl (by kernel_rfl) rfl rfl rfl ?_;intro wz hx hT;have HX:=Lib.hid hx;have HTZ:=Lib.hid hT;have HBz:=Lib.hid (hT.below HW8.out.below HW8.out.below.size (fun k hk => by omega));clear hx hT)
  refine bodyPost_ret (results_ct rfl _ _ (w.heap.size + 1) 31 #[.int .i64 T.field, .int .i64 (T.left - 1), .int .i64 T.run, .int .i64 T.level, .int .i64 T.crc, .int .i64 T.acc, .bool T.ext, .int .u32 T.id, .bool T.rtr, .int .i64 T.dlc,(.slice A5 T.data.length c5)] (0,0) _ rfl HX.out Tryd.underlying31 rfl (by kernel_rfl)) rfl ?_
  rw [HSTEP.out]
  exact ⟨_,rfl,Kd.R_mono (HTZ.out.R HW8.out.row (fun k hk e => by omega)) (fun _ _ => trivial),HBz.out⟩
end Go.Proofs.YtdoclpgciadjaaaDoor.P
