/- Texts of the proof of CFnScanner, joined. -/
import Derived.Test.YtdoclpgciadjaaaDoorSCFnScanner22
import Derived.Test.YtdoclpgciadjaaaDoorSCFnScanner21
import Derived.Test.YtdoclpgciadjaaaDoorSCFnScanner23
import Derived.Test.YtdoclpgciadjaaaDoorSCFnScanner20
import Derived.StillTailTactics
import Derived.Deep.QuietTactic
import Derived.Deep.RegionWith
import Derived.BigQuiet
import Derived.ArgAppend
import Derived.Test.YtdoclpgciadjaaaDoorSCFnScanner4
import Derived.Laws.BitsAllLaws
import Derived.Lib.Strings
import Derived.Lib.SmallJoins
namespace Go.Proofs.YtdoclpgciadjaaaDoor.P
open Go.RowKit Go.Proofs.YtdoclpgciadjaaaDoorW.PrintWords Go.Proofs.YtdoclpgciadjaaaDoorW.PrintLast Go.Proofs.YtdoclpgciadjaaaDoorW.PrintMore
set_option linter.unusedVariables false
set_option linter.unusedSimpArgs false
set_option maxHeartbeats 1000000 in
set_option maxRecDepth 100000 in
theorem scan_quiet_0_1 (w : World) (s : SS) (A : Option Addr) (c : Nat) (hr : Kd.C (Kd.int .u8) w A s.data.length s.data) (hc : s.data.length ≤ c) (hG : LaidRows w) (hs : Sound s) (i0 : 0 ≤ s.id) (hby : ∀ x ∈ s.data,0 ≤ x ∧ x < 256) (h5 : s.run ≠ 5) (hv : verdictV s 0 = 1) (hlim : s.field = 14 → s.left ≠ 1) (hq : 10 < s.field) :
  Calls Tryd.prog 8 #[.agg #[.int .i64 s.field, .int .i64 s.left, .int .i64 s.run, .int .i64 s.level, .int .i64 s.crc, .int .i64 s.acc, .bool s.ext, .int .u32 s.id, .bool s.rtr, .int .i64 s.dlc,(.slice A s.data.length c)], .int .i64 0] w fun e w' => ∃ v : Value,e = .returned (.tuple #[.agg #[.int .i64 (stepS (takeS (crcT (runS s 0) 0) 0)).field, .int .i64 (stepS (takeS (crcT (runS s 0) 0) 0)).left, .int .i64 (stepS (takeS (crcT (runS s 0) 0) 0)).run, .int .i64 (stepS (takeS (crcT (runS s 0) 0) 0)).level, .int .i64 (stepS (takeS (crcT (runS s 0) 0) 0)).crc, .int .i64 (stepS (takeS (crcT (runS s 0) 0) 0)).acc, .bool (stepS (takeS (crcT (runS s 0) 0) 0)).ext, .int .u32 (stepS (takeS (crcT (runS s 0) 0) 0)).id, .bool (stepS (takeS (crcT (runS s 0) 0) 0)).rtr, .int .i64 (stepS (takeS (crcT (runS s 0) 0) 0)).dlc,v], .int .i64 1]) ∧ Kd.R (Kd.int .u8) 5 w' w.heap.size (fun _ => True) v (stepS (takeS (crcT (runS s 0) 0) 0)).data ∧ Below w.heap.size w w':=by
 have HR:=Lib.hid hr
 have HC:=Lib.hid hc
 have HG:=Lib.hid hG
 clear hr hc hG
 have HS:=Lib.hid hs
 have HCP : Hid (impl_copyFrame.f s.ext s.id s.rtr s.dlc s.data = some (s.ext,s.id,s.rtr,s.dlc,s.data)):=Lib.hid (copy_eq (by have:=hs.dl;omega))
 have HSB : Hid (Sound s):=Lib.hid hs
 have HVB : Hid (verdictV s 0 = 1):=Lib.hid hv
 have b5 : (s.run == 5) = false:=beq_eq_false_iff_ne.mpr h5
 have r0:=hs.r0
 have r1:=hs.r1
 have f0:=hs.f0
 have HE1 : Hid (crcT (runS s 0) 0 = ({ s with run:=0,level:=0 } : SS)):=Lib.hid (by rw [show runS s 0 = ({ s with run:=0,level:=0 } : SS) by unfold runS;rw [if_pos hq]];unfold crcT;rw [if_neg (show ¬ s.field ≤ 9 by omega)])
 have HOK : Hid (SOk ({ s with run:=0,level:=0 } : SS)):=Lib.hid (by have h:=hs.ok i0 hby;exact ⟨h.f0,h.f1,h.l0,h.l1,h.d0,h.d1,h.i0,h.i1,h.a0,h.a1,h.ne,h.by_,h.dl⟩)
 have HTK : Hid ((takeS ({ s with run:=0,level:=0 } : SS) 0).field = s.field ∧ (takeS ({ s with run:=0,level:=0 } : SS) 0).left = s.left):=Lib.hid (takeS_keep _ _)
 have HTD : Hid (0 ≤ (takeS ({ s with run:=0,level:=0 } : SS) 0).dlc ∧ (takeS ({ s with run:=0,level:=0 } : SS) 0).dlc ≤ 15):=Lib.hid (takeS_dlc (s := { s with run:=0,level:=0 }) hs.d0 hs.d1 _)
 have HF : Hid (1 ≤ s.field ∧ s.field ≤ 14 ∧ 1 ≤ s.left ∧ s.left ≤ 64 ∧ (s.field = 14 → s.left ≠ 1)):=Lib.hid ⟨hs.f0,hs.f1,hs.l0,by have:=(sizeF_le hs.f0 hs.f1 hs.d0).2;have:=hs.l1;omega,hlim⟩
 clear hs i0 hby h5 hv hlim
 rw [HE1.out]
 generalize hTT : takeS ({ s with run:=0,level:=0 } : SS) 0 = T at HTK HTD ⊢
 have HTT:=Lib.hid hTT
 clear hTT
 go_enter Tryd.func8,Tryd.ntmps8
 go_wp2_with (fail)
 (refine (sound_yes s HSB.out A c _ (Kd.C_alloc (Kd.C_alloc HR.out _) _) HC.out (HG.out.alloc _ |>.alloc _)).mono ?_;rintro e w1 ⟨rfl,hb1⟩;have HW1:=Lib.hid ((SbIn.start w s (.slice A s.data.length c)).step hb1);clear hb1)
 have hx6:=cS6 HW1.out.box
 have hx7:=cS7 HW1.out.box
 have hx8:=cS8 HW1.out.box
 have hx9:=cS9 HW1.out.box
 have hx10:=cS10 HW1.out.box
 go_wp2_with (fail)
 clear hx6 hx7 hx8 hx9 hx10
 (refine (impl_copyFrame.calls s.ext s.id s.rtr s.dlc A c s.data s.ext s.id s.rtr s.dlc s.data _ (Kd.C_below HR.out HW1.out.below) HC.out HCP.out).mono ?_;rintro e w2 ⟨v2,rfl,hr2,hb2⟩;obtain ⟨A2,c2,rfl⟩:=Kd.R_slice hr2;have HR2:=Lib.hid hr2;have HB2:=Lib.hid hb2;have HW2:=Lib.hid (HW1.out.step hb2);clear hr2 hb2)
 go_wp2_with ((with_reducible refine gate_store (t:=29) (p:=22) rfl ?_);refine store_box rfl rfl rfl (g:=w.heap.size) (j:=6) (cs := #[.int .i64 s.field, .int .i64 s.left, .int .i64 s.run, .int .i64 s.level, .int .i64 s.crc, .int .i64 s.acc, .bool s.ext, .int .u32 s.id, .bool s.rtr, .int .i64 s.dlc,(.slice A s.data.length c)]) (cs' := #[.int .i64 s.field, .int .i64 s.left, .int .i64 s.run, .int .i64 s.level, .int .i64 s.crc, .int .i64 s.acc, .bool s.ext, .int .u32 s.id, .bool s.rtr, .int .i64 s.dlc,(.slice A2 s.data.length c2)]) (T:=31) (u := .agg #[.bool s.ext, .int .u32 s.id, .bool s.rtr, .int .i64 s.dlc,(.slice A2 s.data.length c2)]) (seg := [.bool s.ext, .int .u32 s.id, .bool s.rtr, .int .i64 s.dlc,(.slice A2 s.data.length c2)]) rfl rfl HW2.out.box rfl (by kernel_rfl) rfl rfl rfl ?_;intro w3 hx hT;have HW3:=Lib.hid (SbO.ofCopy HW1.out HB2.out HR2.out hx hT);clear hx hT;obtain ⟨hc0,hc1,hc2,hc3,hc4,hc5,hc6,hc7,hc8,hc9,hc10⟩:=cSall HW3.out.box;obtain ⟨hf0,hf1,hf2,hf3,hf4,hf5,hf6,hf7,hf8,hf9,hf10⟩:=fSall HW3.out.box)
 (refine (verdict_run s 0 1 (by omega) HSB.out.l0 HVB.out (.slice A2 s.data.length c2) _).mono ?_;rintro e w4 ⟨rfl,hb4⟩;have HW4:=Lib.hid (HW3.out.step hb4);clear hb4;clear hc0 hc1 hc2 hc3 hc4 hc5 hc6 hc7 hc8 hc9 hc10 hf0 hf1 hf2 hf3 hf4 hf5 hf6 hf7 hf8 hf9 hf10;obtain ⟨hc0,hc1,hc2,hc3,hc4,hc5,hc6,hc7,hc8,hc9,hc10⟩:=cSall HW4.out.box;obtain ⟨hf0,hf1,hf2,hf3,hf4,hf5,hf6,hf7,hf8,hf9,hf10⟩:=fSall HW4.out.box)
 go_wp2_with (fail)
 have HW6 : Hid (SbO w _ ({ s with run:=0,level:=0 } : SS) _):=Lib.hid ((HW4.out.put (setS2 HW4.out.box (0)) rfl).put (setS3 (setS2 HW4.out.box (0)) (0)) rfl)
 (refine (impl_Scan_plain.calls w.heap.size _ ({ s with run:=0,level:=0 } : SS) 0 (by omega) (fun k => w.heap.size + 1 < k) w _ HW6.out.toIn (Nat.le_refl _) (by (try simp only []);omega) HOK.out).mono ?_;intro e w5 hE;obtain ⟨v5,h7⟩:=HW6.out.ofEnd hE;have hret:=hE.ret;subst hret;clear hE)
 rw [HTT.out] at h7
 obtain ⟨A5,c5,rfl,hC5,hc5⟩:=h7.open_
 have HW7:=Lib.hid h7
 clear h7 hC5 hc5 HTT HW6 HE1 HOK
 clear hc0 hc1 hc2 hc3 hc4 hc5 hc6 hc7 hc8 hc9 hc10 hf0 hf1 hf2 hf3 hf4 hf5 hf6 hf7 hf8 hf9 hf10
 obtain ⟨hc0,hc1,hc2,hc3,hc4,hc5,hc6,hc7,hc8,hc9,hc10⟩:=cSall HW7.out.box
 obtain ⟨hf0,hf1,hf2,hf3,hf4,hf5,hf6,hf7,hf8,hf9,hf10⟩:=fSall HW7.out.box
 have tl0 : 1 ≤ T.left:=by have:=HTK.out;have:=HF.out;omega
 have tl1 : T.left ≤ 64:=by have:=HTK.out;have:=HF.out;omega
 have HW8:=Lib.hid (HW7.out.put (setS1 HW7.out.box (T.left - 1)) rfl)
 by_cases hL : T.left - 1 = 0
 ·have bL : (T.left - 1 == 0) = true:=beq_iff_eq.mpr hL
  have HL0:=Lib.hid hL
  have HSTEP : Hid (stepS T = enterS T (afterF T)):=Lib.hid (by unfold stepS;rw [if_pos hL])
  have HAR : Hid (1 ≤ afterF T ∧ afterF T ≤ 14):=Lib.hid (by have h1:=HTK.out;have h2:=HF.out;exact afterF_range (by omega) (by omega))
  have HAI : Hid (impl_fieldAfter.f T.field T.ext T.id T.rtr T.dlc T.data = some (afterF T)):=Lib.hid (by have h1:=HTK.out;have h2:=HF.out;exact afterI (by omega) (by omega))
  have HSI : Hid (impl_fieldSize.f (afterF T) T.ext T.id T.rtr T.dlc T.data = some (sizeF { T with field:=afterF T })):=Lib.hid (sizeI (s := { T with field:=afterF T }) HAR.out.1 HAR.out.2 HTD.out.1 HTD.out.2)
  generalize afterF T = AF at HSTEP HAR HAI HSI
  clear hL
  go_wp2_with (fail)
  (refine (impl_fieldAfter.calls T.field T.ext T.id T.rtr T.dlc A5 c5 T.data AF _ (Kd.R_reads' HW8.out.row).2.2 (Kd.R_reads' HW8.out.row).2.1 HAI.out (HG.out.next HW8.out.below)).mono ?_;rintro e w9 ⟨rfl,hb9⟩;have HW9:=Lib.hid (HW8.out.step hb9);clear hb9;clear hc0 hc1 hc2 hc3 hc4 hc5 hc6 hc7 hc8 hc9 hc10 hf0 hf1 hf2 hf3 hf4 hf5 hf6 hf7 hf8 hf9 hf10;obtain ⟨hc0,hc1,hc2,hc3,hc4,hc5,hc6,hc7,hc8,hc9,hc10⟩:=cSall HW9.out.box;obtain ⟨hf0,hf1,hf2,hf3,hf4,hf5,hf6,hf7,hf8,hf9,hf10⟩:=fSall HW9.out.box)
  have HW10:=Lib.hid (HW9.out.put (setS0 HW9.out.box AF) rfl)
  go_wp2_with (fail)
  (refine (impl_fieldSize.calls AF T.ext T.id T.rtr T.dlc A5 c5 T.data _ _ (Kd.R_reads' HW10.out.row).2.2 (Kd.R_reads' HW10.out.row).2.1 HSI.out (HG.out.next HW10.out.below)).mono ?_;rintro e w11 ⟨rfl,hb11⟩;have HW11:=Lib.hid (HW10.out.step hb11);clear hb11;clear hc0 hc1 hc2 hc3 hc4 hc5 hc6 hc7 hc8 hc9 hc10 hf0 hf1 hf2 hf3 hf4 hf5 hf6 hf7 hf8 hf9 hf10;obtain ⟨hc0,hc1,hc2,hc3,hc4,hc5,hc6,hc7,hc8,hc9,hc10⟩:=cSall HW11.out.box;obtain ⟨hf0,hf1,hf2,hf3,hf4,hf5,hf6,hf7,hf8,hf9,hf10⟩:=fSall HW11.out.box)
  generalize hSZ : sizeF { T with field:=AF } = SZ at HSI ⊢
  have HSZ:=Lib.hid hSZ
  clear hSZ
  have HW12:=Lib.hid (HW11.out.put (setS1 HW11.out.box SZ) rfl)
  by_cases h9 : AF = 9
  ·have b9 : (AF == 9) = true:=beq_iff_eq.mpr h9
   have HH9:=Lib.hid h9
   clear h9
   have hns:=HW12.out.nil
   have hsz12 : (w11.setCell ⟨w.heap.size,1,none⟩ (.int .i64 SZ)).heap.size = w11.heap.size:=by simp [World.setCell]
   rw [hsz12] at hns
   have HW13:=Lib.hid hns
   clear hns hsz12
   obtain ⟨hg0,hg1,hg2,hg3,hg4,hg5,hg6,hg7,hg8,hg9,hg10⟩:=cSall (blk_alloc HW12.out.box (.cells #[] 5))
   have hgf:=fS (blk_alloc HW12.out.box (.cells #[] 5)) 10
   go_wp2_with ((with_reducible refine gate_store (t:=31) (p:=4) rfl ?_);refine store_box rfl rfl rfl (g:=w.heap.size + 1) (j:=0) (cs := #[.int .i64 0, .int .i64 0, .int .i64 0, .int .i64 0, .int .i64 0, .int .i64 0, .bool false, .int .u32 0, .bool false, .int .i64 0, .slice none 0 0]) (cs' := #[.int .i64 AF, .int .i64 SZ, .int .i64 T.run, .int .i64 T.level, .int .i64 T.crc, .int .i64 T.acc, .bool T.ext, .int .u32 T.id, .bool T.rtr, .int .i64 T.dlc,(.slice (some ⟨w11.heap.size,0,none⟩) 0 0)]) (T:=31) (u := .agg #[.int .i64 AF, .int .i64 SZ, .int .i64 T.run, .int .i64 T.level, .int .i64 T.crc, .int .i64 T.acc, .bool T.ext, .int .u32 T.id, .bool T.rtr, .int .i64 T.dlc,(.slice (some ⟨w11.heap.size,0,none⟩) 0 0)]) (seg := [.int .i64 AF, .int .i64 SZ, .int .i64 T.run, .int .i64 T.level, .int .i64 T.crc, .int .i64 T.acc, .bool T.ext, .int .u32 T.id, .bool T.rtr, .int .i64 T.dlc,(.slice (some ⟨w11.heap.size,0,none⟩) 0 0)]) rfl rfl HW13.out.res rfl (by kernel_rfl) rfl rfl rfl ?_;intro wz hx hT;have HX:=Lib.hid hx;have HTZ:=Lib.hid hT;have HBz:=Lib.hid (hT.below HW13.out.below HW13.out.below.size (fun k hk => by omega));clear hx hT)
   refine bodyPost_ret (results_ct rfl _ _ (w.heap.size + 1) 31 #[.int .i64 AF, .int .i64 SZ, .int .i64 T.run, .int .i64 T.level, .int .i64 T.crc, .int .i64 T.acc, .bool T.ext, .int .u32 T.id, .bool T.rtr, .int .i64 T.dlc,(.slice (some ⟨w11.heap.size,0,none⟩) 0 0)] (0,0) _ rfl HX.out Tryd.underlying31 rfl (by kernel_rfl)) rfl ?_
   rw [HSTEP.out,show enterS T AF = { T with field:=AF,left:=SZ,data := [] } by unfold enterS;rw [if_pos HH9.out,HSZ.out]]
   exact ⟨_,rfl,Kd.R_mono (HTZ.out.R HW13.out.row (fun k hk e => by omega)) (fun _ _ => trivial),HBz.out⟩
  ·have b9 : (AF == 9) = false:=beq_eq_false_iff_ne.mpr h9
   have HH9:=Lib.hid h9
   clear h9
   go_wp2_with ((with_reducible refine gate_store (t:=31) (p:=4) rfl ?_);refine store_box rfl rfl rfl (g:=w.heap.size + 1) (j:=0) (cs := #[.int .i64 0, .int .i64 0, .int .i64 0, .int .i64 0, .int .i64 0, .int .i64 0, .bool false, .int .u32 0, .bool false, .int .i64 0, .slice none 0 0]) (cs' := #[.int .i64 AF, .int .i64 SZ, .int .i64 T.run, .int .i64 T.level, .int .i64 T.crc, .int .i64 T.acc, .bool T.ext, .int .u32 T.id, .bool T.rtr, .int .i64 T.dlc,(.slice A5 T.data.length c5)]) (T:=31) (u := .agg #[.int .i64 AF, .int .i64 SZ, .int .i64 T.run, .int .i64 T.level, .int .i64 T.crc, .int .i64 T.acc, .bool T.ext, .int .u32 T.id, .bool T.rtr, .int .i64 T.dlc,(.slice A5 T.data.length c5)]) (seg := [.int .i64 AF, .int .i64 SZ, .int .i64 T.run, .int .i64 T.level, .int .i64 T.crc, .int .i64 T.acc, .bool T.ext, .int .u32 T.id, .bool T.rtr, .int .i64 T.dlc,(.slice A5 T.data.length c5)]) rfl rfl HW12.out.res rfl (by kernel_rfl) rfl rfl rfl ?_;intro wz hx hT;have HX:=Lib.hid hx;have HTZ:=Lib.hid hT;have HBz:=Lib.hid (hT.below HW12.out.below HW12.out.below.size (fun k hk => by omega));clear hx hT)
   refine bodyPost_ret (results_ct rfl _ _ (w.heap.size + 1) 31 #[.int .i64 AF, .int .i64 SZ, .int .i64 T.run, .int .i64 T.level, .int .i64 T.crc, .int .i64 T.acc, .bool T.ext, .int .u32 T.id, .bool T.rtr, .int .i64 T.dlc,(.slice A5 T.data.length c5)] (0,0) _ rfl HX.out Tryd.underlying31 rfl (by kernel_rfl)) rfl ?_
   rw [HSTEP.out,show enterS T AF = { T with field:=AF,left:=SZ } by unfold enterS;rw [if_neg HH9.out,HSZ.out]]
   exact ⟨_,rfl,Kd.R_mono (HTZ.out.R HW12.out.row (fun k hk e => by omega)) (fun _ _ => trivial),HBz.out⟩
 ·have bL : (T.left - 1 == 0) = false:=beq_eq_false_iff_ne.mpr hL
  have HL0:=Lib.hid hL
  have HSTEP : Hid (stepS T = { T with left:=T.left - 1 }):=Lib.hid (by unfold stepS;rw [if_neg hL])
  clear hL
  go_wp2_with ((with_reducible refine gate_store (t:=31) (p:=4) rfl ?_);refine store_box rfl rfl rfl (g:=w.heap.size + 1) (j:=0) (cs := #[.int .i64 0, .int .i64 0, .int .i64 0, .int .i64 0, .int .i64 0, .int .i64 0, .bool false, .int .u32 0, .bool false, .int .i64 0, .slice none 0 0]) (cs' := #[.int .i64 T.field, .int .i64 (T.left - 1), .int .i64 T.run, .int .i64 T.level, .int .i64 T.crc, .int .i64 T.acc, .bool T.ext, .int .u32 T.id, .bool T.rtr, .int .i64 T.dlc,(.slice A5 T.data.length c5)]) (T:=31) (u := .agg #[.int .i64 T.field, .int .i64 (T.left - 1), .int .i64 T.run, .int .i64 T.level, .int .i64 T.crc, .int .i64 T.acc, .bool T.ext, .int .u32 T.id, .bool T.rtr, .int .i64 T.dlc,(.slice A5 T.data.length c5)]) (seg := [.int .i64 T.field, .int .i64 (T.left - 1), .int .i64 T.run, .int .i64 T.level, .int .i64 T.crc, .int .i64 T.acc, .bool T.ext, .int .u32 T.id, .bool T.rtr, .int .i64 T.dlc,(.slice A5 T.data.length c5)]) rfl rfl HW8.out.res rfl (by kernel_rfl) rfl rfl rfl ?_;intro wz hx hT;have HX:=Lib.hid hx;have HTZ:=Lib.hid hT;have HBz:=Lib.hid (hT.below HW8.out.below HW8.out.below.size (fun k hk => by omega));clear hx hT)
  refine bodyPost_ret (results_ct rfl _ _ (w.heap.size + 1) 31 #[.int .i64 T.field, .int .i64 (T.left - 1), .int .i64 T.run, .int .i64 T.level, .int .i64 T.crc, .int .i64 T.acc, .bool T.ext, .int .u32 T.id, .bool T.rtr, .int .i64 T.dlc,(.slice A5 T.data.length c5)] (0,0) _ rfl HX.out Tryd.underlying31 rfl (by kernel_rfl)) rfl ?_
  rw [HSTEP.out]
  exact ⟨_,rfl,Kd.R_mono (HTZ.out.R HW8.out.row (fun k hk e => by omega)) (fun _ _ => trivial),HBz.out⟩
set_option maxHeartbeats 1000000 in
set_option maxRecDepth 100000 in
theorem scan_quiet_1_1 (w : World) (s : SS) (A : Option Addr) (c : Nat) (hr : Kd.C (Kd.int .u8) w A s.data.length s.data) (hc : s.data.length ≤ c) (hG : LaidRows w) (hs : Sound s) (i0 : 0 ≤ s.id) (hby : ∀ x ∈ s.data,0 ≤ x ∧ x < 256) (h5 : s.run ≠ 5) (hv : verdictV s 1 = 1) (hlim : s.field = 14 → s.left ≠ 1) (hq : 10 < s.field) :
  Calls Tryd.prog 8 #[.agg #[.int .i64 s.field, .int .i64 s.left, .int .i64 s.run, .int .i64 s.level, .int .i64 s.crc, .int .i64 s.acc, .bool s.ext, .int .u32 s.id, .bool s.rtr, .int .i64 s.dlc,(.slice A s.data.length c)], .int .i64 1] w fun e w' => ∃ v : Value,e = .returned (.tuple #[.agg #[.int .i64 (stepS (takeS (crcT (runS s 1) 1) 1)).field, .int .i64 (stepS (takeS (crcT (runS s 1) 1) 1)).left, .int .i64 (stepS (takeS (crcT (runS s 1) 1) 1)).run, .int .i64 (stepS (takeS (crcT (runS s 1) 1) 1)).level, .int .i64 (stepS (takeS (crcT (runS s 1) 1) 1)).crc, .int .i64 (stepS (takeS (crcT (runS s 1) 1) 1)).acc, .bool (stepS (takeS (crcT (runS s 1) 1) 1)).ext, .int .u32 (stepS (takeS (crcT (runS s 1) 1) 1)).id, .bool (stepS (takeS (crcT (runS s 1) 1) 1)).rtr, .int .i64 (stepS (takeS (crcT (runS s 1) 1) 1)).dlc,v], .int .i64 1]) ∧ Kd.R (Kd.int .u8) 5 w' w.heap.size (fun _ => True) v (stepS (takeS (crcT (runS s 1) 1) 1)).data ∧ Below w.heap.size w w':=by
 have HR:=Lib.hid hr
 have HC:=Lib.hid hc
 have HG:=Lib.hid hG
 clear hr hc hG
 have HS:=Lib.hid hs
 have HCP : Hid (impl_copyFrame.f s.ext s.id s.rtr s.dlc s.data = some (s.ext,s.id,s.rtr,s.dlc,s.data)):=Lib.hid (copy_eq (by have:=hs.dl;omega))
 have HSB : Hid (Sound s):=Lib.hid hs
 have HVB : Hid (verdictV s 1 = 1):=Lib.hid hv
 have b5 : (s.run == 5) = false:=beq_eq_false_iff_ne.mpr h5
 have r0:=hs.r0
 have r1:=hs.r1
 have f0:=hs.f0
 have HE1 : Hid (crcT (runS s 1) 1 = ({ s with run:=0,level:=0 } : SS)):=Lib.hid (by rw [show runS s 1 = ({ s with run:=0,level:=0 } : SS) by unfold runS;rw [if_pos hq]];unfold crcT;rw [if_neg (show ¬ s.field ≤ 9 by omega)])
 have HOK : Hid (SOk ({ s with run:=0,level:=0 } : SS)):=Lib.hid (by have h:=hs.ok i0 hby;exact ⟨h.f0,h.f1,h.l0,h.l1,h.d0,h.d1,h.i0,h.i1,h.a0,h.a1,h.ne,h.by_,h.dl⟩)
 have HTK : Hid ((takeS ({ s with run:=0,level:=0 } : SS) 1).field = s.field ∧ (takeS ({ s with run:=0,level:=0 } : SS) 1).left = s.left):=Lib.hid (takeS_keep _ _)
 have HTD : Hid (0 ≤ (takeS ({ s with run:=0,level:=0 } : SS) 1).dlc ∧ (takeS ({ s with run:=0,level:=0 } : SS) 1).dlc ≤ 15):=Lib.hid (takeS_dlc (s := { s with run:=0,level:=0 }) hs.d0 hs.d1 _)
 have HF : Hid (1 ≤ s.field ∧ s.field ≤ 14 ∧ 1 ≤ s.left ∧ s.left ≤ 64 ∧ (s.field = 14 → s.left ≠ 1)):=Lib.hid ⟨hs.f0,hs.f1,hs.l0,by have:=(sizeF_le hs.f0 hs.f1 hs.d0).2;have:=hs.l1;omega,hlim⟩
 clear hs i0 hby h5 hv hlim
 rw [HE1.out]
 generalize hTT : takeS ({ s with run:=0,level:=0 } : SS) 1 = T at HTK HTD ⊢
 have HTT:=Lib.hid hTT
 clear hTT
 go_enter Tryd.func8,Tryd.ntmps8
 go_wp2_with (fail)
 (refine (sound_yes s HSB.out A c _ (Kd.C_alloc (Kd.C_alloc HR.out _) _) HC.out (HG.out.alloc _ |>.alloc _)).mono ?_;rintro e w1 ⟨rfl,hb1⟩;have HW1:=Lib.hid ((SbIn.start w s (.slice A s.data.length c)).step hb1);clear hb1)
 have hx6:=cS6 HW1.out.box
 have hx7:=cS7 HW1.out.box
 have hx8:=cS8 HW1.out.box
 have hx9:=cS9 HW1.out.box
 have hx10:=cS10 HW1.out.box
 go_wp2_with (fail)
 clear hx6 hx7 hx8 hx9 hx10
 (refine (impl_copyFrame.calls s.ext s.id s.rtr s.dlc A c s.data s.ext s.id s.rtr s.dlc s.data _ (Kd.C_below HR.out HW1.out.below) HC.out HCP.out).mono ?_;rintro e w2 ⟨v2,rfl,hr2,hb2⟩;obtain ⟨A2,c2,rfl⟩:=Kd.R_slice hr2;have HR2:=Lib.hid hr2;have HB2:=Lib.hid hb2;have HW2:=Lib.hid (HW1.out.step hb2);clear hr2 hb2)
 go_wp2_with ((with_reducible refine gate_store (t:=29) (p:=22) rfl ?_);refine store_box rfl rfl rfl (g:=w.heap.size) (j:=6) (cs := #[.int .i64 s.field, .int .i64 s.left, .int .i64 s.run, .int .i64 s.level, .int .i64 s.crc, .int .i64 s.acc, .bool s.ext, .int .u32 s.id, .bool s.rtr, .int .i64 s.dlc,(.slice A s.data.length c)]) (cs' := #[.int .i64 s.field, .int .i64 s.left, .int .i64 s.run, .int .i64 s.level, .int .i64 s.crc, .int .i64 s.acc, .bool s.ext, .int .u32 s.id, .bool s.rtr, .int .i64 s.dlc,(.slice A2 s.data.length c2)]) (T:=31) (u := .agg #[.bool s.ext, .int .u32 s.id, .bool s.rtr, .int .i64 s.dlc,(.slice A2 s.data.length c2)]) (seg := [.bool s.ext, .int .u32 s.id, .bool s.rtr, .int .i64 s.dlc,(.slice A2 s.data.length c2)]) rfl rfl HW2.out.box rfl (by kernel_rfl) rfl rfl rfl ?_;intro w3 hx hT;have HW3:=Lib.hid (SbO.ofCopy HW1.out HB2.out HR2.out hx hT);clear hx hT;obtain ⟨hc0,hc1,hc2,hc3,hc4,hc5,hc6,hc7,hc8,hc9,hc10⟩:=cSall HW3.out.box;obtain ⟨hf0,hf1,hf2,hf3,hf4,hf5,hf6,hf7,hf8,hf9,hf10⟩:=fSall HW3.out.box)
 (refine (verdict_run s 1 1 (by omega) HSB.out.l0 HVB.out (.slice A2 s.data.length c2) _).mono ?_;rintro e w4 ⟨rfl,hb4⟩;have HW4:=Lib.hid (HW3.out.step hb4);clear hb4;clear hc0 hc1 hc2 hc3 hc4 hc5 hc6 hc7 hc8 hc9 hc10 hf0 hf1 hf2 hf3 hf4 hf5 hf6 hf7 hf8 hf9 hf10;obtain ⟨hc0,hc1,hc2,hc3,hc4,hc5,hc6,hc7,hc8,hc9,hc10⟩:=cSall HW4.out.box;obtain ⟨hf0,hf1,hf2,hf3,hf4,hf5,hf6,hf7,hf8,hf9,hf10⟩:=fSall HW4.out.box)
 go_wp2_with (fail)
 have HW6 : Hid (SbO w _ ({ s with run:=0,level:=0 } : SS) _):=Lib.hid ((HW4.out.put (setS2 HW4.out.box (0)) rfl).put (setS3 (setS2 HW4.out.box (0)) (0)) rfl)
 (refine (impl_Scan_plain.calls w.heap.size _ ({ s with run:=0,level:=0 } : SS) 1 (by omega) (fun k => w.heap.size + 1 < k) w _ HW6.out.toIn (Nat.le_refl _) (by (try simp only []);omega) HOK.out).mono ?_;intro e w5 hE;obtain ⟨v5,h7⟩:=HW6.out.ofEnd hE;have hret:=hE.ret;subst hret;clear hE)
 rw [HTT.out] at h7
 obtain ⟨A5,c5,rfl,hC5,hc5⟩:=h7.open_
 have HW7:=Lib.hid h7
 clear h7 hC5 hc5 HTT HW6 HE1 HOK
 clear hc0 hc1 hc2 hc3 hc4 hc5 hc6 hc7 hc8 hc9 hc10 hf0 hf1 hf2 hf3 hf4 hf5 hf6 hf7 hf8 hf9 hf10
 obtain ⟨hc0,hc1,hc2,hc3,hc4,hc5,hc6,hc7,hc8,hc9,hc10⟩:=cSall HW7.out.box
 obtain ⟨hf0,hf1,hf2,hf3,hf4,hf5,hf6,hf7,hf8,hf9,hf10⟩:=fSall HW7.out.box
 have tl0 : 1 ≤ T.left:=by have:=HTK.out;have:=HF.out;omega
 have tl1 : T.left ≤ 64:=by have:=HTK.out;have:=HF.out;omega
 have HW8:=Lib.hid (HW7.out.put (setS1 HW7.out.box (T.left - 1)) rfl)
 by_cases hL : T.left - 1 = 0
 ·have bL : (T.left - 1 == 0) = true:=beq_iff_eq.mpr hL
  have HL0:=Lib.hid hL
  have HSTEP : Hid (stepS T = enterS T (afterF T)):=Lib.hid (by unfold stepS;rw [if_pos hL])
  have HAR : Hid (1 ≤ afterF T ∧ afterF T ≤ 14):=Lib.hid (by have h1:=HTK.out;have h2:=HF.out;exact afterF_range (by omega) (by omega))
  have HAI : Hid (impl_fieldAfter.f T.field T.ext T.id T.rtr T.dlc T.data = some (afterF T)):=Lib.hid (by have h1:=HTK.out;have h2:=HF.out;exact afterI (by omega) (by omega))
  have HSI : Hid (impl_fieldSize.f (afterF T) T.ext T.id T.rtr T.dlc T.data = some (sizeF { T with field:=afterF T })):=Lib.hid (sizeI (s := { T with field:=afterF T }) HAR.out.1 HAR.out.2 HTD.out.1 HTD.out.2)
  generalize afterF T = AF at HSTEP HAR HAI HSI
  clear hL
  go_wp2_with (fail)
  (refine (impl_fieldAfter.calls T.field T.ext T.id T.rtr T.dlc A5 c5 T.data AF _ (Kd.R_reads' HW8.out.row).2.2 (Kd.R_reads' HW8.out.row).2.1 HAI.out (HG.out.next HW8.out.below)).mono ?_;rintro e w9 ⟨rfl,hb9⟩;have HW9:=Lib.hid (HW8.out.step hb9);clear hb9;clear hc0 hc1 hc2 hc3 hc4 hc5 hc6 hc7 hc8 hc9 hc10 hf0 hf1 hf2 hf3 hf4 hf5 hf6 hf7 hf8 hf9 hf10;obtain ⟨hc0,hc1,hc2,hc3,hc4,hc5,hc6,hc7,hc8,hc9,hc10⟩:=cSall HW9.out.box;obtain ⟨hf0,hf1,hf2,hf3,hf4,hf5,hf6,hf7,hf8,hf9,hf10⟩:=fSall HW9.out.box)
  have HW10:=Lib.hid (HW9.out.put (setS0 HW9.out.box AF) rfl)
  go_wp2_with (fail)
  (refine (impl_fieldSize.calls AF T.ext T.id T.rtr T.dlc A5 c5 T.data _ _ (Kd.R_reads' HW10.out.row).2.2 (Kd.R_reads' HW10.out.row).2.1 HSI.out (HG.out.next HW10.out.below)).mono ?_;rintro e w11 ⟨rfl,hb11⟩;have HW11:=Lib.hid (HW10.out.step hb11);clear hb11;clear hc0 hc1 hc2 hc3 hc4 hc5 hc6 hc7 hc8 hc9 hc10 hf0 hf1 hf2 hf3 hf4 hf5 hf6 hf7 hf8 hf9 hf10;obtain ⟨hc0,hc1,hc2,hc3,hc4,hc5,hc6,hc7,hc8,hc9,hc10⟩:=cSall HW11.out.box;obtain ⟨hf0,hf1,hf2,hf3,hf4,hf5,hf6,hf7,hf8,hf9,hf10⟩:=fSall HW11.out.box)
  generalize hSZ : sizeF { T with field:=AF } = SZ at HSI ⊢
  have HSZ:=Lib.hid hSZ
  clear hSZ
  have HW12:=Lib.hid (HW11.out.put (setS1 HW11.out.box SZ) rfl)
  by_cases h9 : AF = 9
  ·have b9 : (AF == 9) = true:=beq_iff_eq.mpr h9
   have HH9:=Lib.hid h9
   clear h9
   have hns:=HW12.out.nil
   have hsz12 : (w11.setCell ⟨w.heap.size,1,none⟩ (.int .i64 SZ)).heap.size = w11.heap.size:=by simp [World.setCell]
   rw [hsz12] at hns
   have HW13:=Lib.hid hns
   clear hns hsz12
   obtain ⟨hg0,hg1,hg2,hg3,hg4,hg5,hg6,hg7,hg8,hg9,hg10⟩:=cSall (blk_alloc HW12.out.box (.cells #[] 5))
   have hgf:=fS (blk_alloc HW12.out.box (.cells #[] 5)) 10
   go_wp2_with ((with_reducible refine gate_store (t:=31) (p:=4) rfl ?_);refine store_box rfl rfl rfl (g:=w.heap.size + 1) (j:=0) (cs := #[.int .i64 0, .int .i64 0, .int .i64 0, .int .i64 0, .int .i64 0, .int .i64 0, .bool false, .int .u32 0, .bool false, .int .i64 0, .slice none 0 0]) (cs' := #[.int .i64 AF, .int .i64 SZ, .int .i64 T.run, .int .i64 T.level, .int .i64 T.crc, .int .i64 T.acc, .bool T.ext, .int .u32 T.id, .bool T.rtr, .int .i64 T.dlc,(.slice (some ⟨w11.heap.size,0,none⟩) 0 0)]) (T:=31) (u := .agg #[.int .i64 AF, .int .i64 SZ, .int .i64 T.run, .int .i64 T.level, .int .i64 T.crc, .int .i64 T.acc, .bool T.ext, .int .u32 T.id, .bool T.rtr, .int .i64 T.dlc,(.slice (some ⟨w11.heap.size,0,none⟩) 0 0)]) (seg := [.int .i64 AF, .int .i64 SZ, .int .i64 T.run, .int .i64 T.level, .int .i64 T.crc, .int .i64 T.acc, .bool T.ext, .int .u32 T.id, .bool T.rtr, .int .i64 T.dlc,(.slice (some ⟨w11.heap.size,0,none⟩) 0 0)]) rfl rfl HW13.out.res rfl (by kernel_rfl) rfl rfl rfl ?_;intro wz hx hT;have HX:=Lib.hid hx;have HTZ:=Lib.hid hT;have HBz:=Lib.hid (hT.below HW13.out.below HW13.out.below.size (fun k hk => by omega));clear hx hT)
   refine bodyPost_ret (results_ct rfl _ _ (w.heap.size + 1) 31 #[.int .i64 AF, .int .i64 SZ, .int .i64 T.run, .int .i64 T.level, .int .i64 T.crc, .int .i64 T.acc, .bool T.ext, .int .u32 T.id, .bool T.rtr, .int .i64 T.dlc,(.slice (some ⟨w11.heap.size,0,none⟩) 0 0)] (0,0) _ rfl HX.out Tryd.underlying31 rfl (by kernel_rfl)) rfl ?_
   rw [HSTEP.out,show enterS T AF = { T with field:=AF,left:=SZ,data := [] } by unfold enterS;rw [if_pos HH9.out,HSZ.out]]
   exact ⟨_,rfl,Kd.R_mono (HTZ.out.R HW13.out.row (fun k hk e => by omega)) (fun _ _ => trivial),HBz.out⟩
  ·have b9 : (AF == 9) = false:=beq_eq_false_iff_ne.mpr h9
   have HH9:=Lib.hid h9
   clear h9
   go_wp2_with ((with_reducible refine gate_store (t:=31) (p:=4) rfl ?_);refine store_box rfl rfl rfl (g:=w.heap.size + 1) (j:=0) (cs := #[.int .i64 0, .int .i64 0, .int .i64 0, .int .i64 0, .int .i64 0, .int .i64 0, .bool false, .int .u32 0, .bool false, .int .i64 0, .slice none 0 0]) (cs' := #[.int .i64 AF, .int .i64 SZ, .int .i64 T.run, .int .i64 T.level, .int .i64 T.crc, .int .i64 T.acc, .bool T.ext, .int .u32 T.id, .bool T.rtr, .int .i64 T.dlc,(.slice A5 T.data.length c5)]) (T:=31) (u := .agg #[.int .i64 AF, .int .i64 SZ, .int .i64 T.run, .int .i64 T.level, .int .i64 T.crc, .int .i64 T.acc, .bool T.ext, .int .u32 T.id, .bool T.rtr, .int .i64 T.dlc,(.slice A5 T.data.length c5)]) (seg := [.int .i64 AF, .int .i64 SZ, .int .i64 T.run, .int .i64 T.level, .int .i64 T.crc, .int .i64 T.acc, .bool T.ext, .int .u32 T.id, .bool T.rtr, .int .i64 T.dlc,(.slice A5 T.data.length c5)]) rfl rfl HW12.out.res rfl (by kernel_rfl) rfl rfl rfl ?_;intro wz hx hT;have HX:=Lib.hid hx;have HTZ:=Lib.hid hT;have HBz:=Lib.hid (hT.below HW12.out.below HW12.out.below.size (fun k hk => by omega));clear hx hT)
   refine bodyPost_ret (results_ct rfl _ _ (w.heap.size + 1) 31 #[.int .i64 AF, .int .i64 SZ, .int .i64 T.run, .int .i64 T.level, .int .i64 T.crc, .int .i64 T.acc, .bool T.ext, .int .u32 T.id, .bool T.rtr, .int .i64 T.dlc,(.slice A5 T.data.length c5)] (0,0) _ rfl HX.out Tryd.underlying31 rfl (by kernel_rfl)) rfl ?_
   rw [HSTEP.out,show enterS T AF = { T with field:=AF,left:=SZ } by unfold enterS;rw [if_neg HH9.out,HSZ.out]]
   exact ⟨_,rfl,Kd.R_mono (HTZ.out.R HW12.out.row (fun k hk e => by omega)) (fun _ _ => trivial),HBz.out⟩
 ·have bL : (T.left - 1 == 0) = false:=beq_eq_false_iff_ne.mpr hL
  have HL0:=Lib.hid hL
  have HSTEP : Hid (stepS T = { T with left:=T.left - 1 }):=Lib.hid (by unfold stepS;rw [if_neg hL])
  clear hL
  go_wp2_with ((with_reducible refine gate_store (t:=31) (p:=4) rfl ?_);refine store_box rfl rfl rfl (g:=w.heap.size + 1) (j:=0) (cs := #[.int .i64 0, .int .i64 0, .int .i64 0, .int .i64 0, .int .i64 0, .int .i64 0, .bool false, .int .u32 0, .bool false, .int .i64 0, .slice none 0 0]) (cs' := #[.int .i64 T.field, .int .i64 (T.left - 1), .int .i64 T.run, .int .i64 T.level, .int .i64 T.crc, .int .i64 T.acc, .bool T.ext, .int .u32 T.id, .bool T.rtr, .int .i64 T.dlc,(.slice A5 T.data.length c5)]) (T:=31) (u := .agg #[.int .i64 T.field, .int .i64 (T.left - 1), .int .i64 T.run, .int .i64 T.level, .int .i64 T.crc, .int .i64 T.acc, .bool T.ext, .int .u32 T.id, .bool T.rtr, .int .i64 T.dlc,(.slice A5 T.data.length c5)]) (seg := [.int .i64 T.field, .int .i64 (T.left - 1), .int .i64 T.run, .int .i64 T.level, .int .i64 T.crc, .int .i64 T.acc, .bool T.ext, .int .u32 T.id, .bool T.rtr, .int .i64 T.dlc,(.slice A5 T.data.length c5)]) rfl rfl HW8.out.res rfl (by kernel_rfl) rfl rfl rfl ?_;intro wz hx hT;have HX:=Lib.hid hx;have HTZ:=Lib.hid hT;have HBz:=Lib.hid (hT.below HW8.out.below HW8.out.below.size (fun k hk => by omega));clear hx hT)
  refine bodyPost_ret (results_ct rfl _ _ (w.heap.size + 1) 31 #[.int .i64 T.field, .int .i64 (T.left - 1), .int .i64 T.run, .int .i64 T.level, .int .i64 T.crc, .int .i64 T.acc, .bool T.ext, .int .u32 T.id, .bool T.rtr, .int .i64 T.dlc,(.slice A5 T.data.length c5)] (0,0) _ rfl HX.out Tryd.underlying31 rfl (by kernel_rfl)) rfl ?_
  rw [HSTEP.out]
  exact ⟨_,rfl,Kd.R_mono (HTZ.out.R HW8.out.row (fun k hk e => by omega)) (fun _ _ => trivial),HBz.out⟩
theorem scan_bad_0 (w : World) (s : SS) (A : Option Addr) (c : Nat) (hr : Kd.C (Kd.int .u8) w A s.data.length s.data) (hc : s.data.length ≤ c) (hG : LaidRows w) (hs : Sound s) (h5 : s.run ≠ 5) (hv0 : verdictV s 0 ≠ 0) (hv1 : verdictV s 0 ≠ 1) :
  Calls Tryd.prog 8 #[.agg #[.int .i64 s.field, .int .i64 s.left, .int .i64 s.run, .int .i64 s.level, .int .i64 s.crc, .int .i64 s.acc, .bool s.ext, .int .u32 s.id, .bool s.rtr, .int .i64 s.dlc,(.slice A s.data.length c)], .int .i64 0] w fun e w' => e = .returned (.tuple #[.agg #[.int .i64 0, .int .i64 0, .int .i64 0, .int .i64 0, .int .i64 0, .int .i64 0, .bool false, .int .u32 0, .bool false, .int .i64 0, .slice none 0 0], .int .i64 (verdictV s 0)]) ∧ Below w.heap.size w w':=by
 have HR:=Lib.hid hr
 have HC:=Lib.hid hc
 have HG:=Lib.hid hG
 clear hr hc hG
 have HS:=Lib.hid hs
 have HCP : Hid (impl_copyFrame.f s.ext s.id s.rtr s.dlc s.data = some (s.ext,s.id,s.rtr,s.dlc,s.data)):=Lib.hid (copy_eq (by have:=hs.dl;omega))
 have HSB : Hid (Sound s):=Lib.hid hs
 obtain ⟨V,hV⟩ : ∃ V,verdictV s 0 = V:=⟨_,rfl⟩
 rw [hV] at hv0 hv1 ⊢
 have HVB:=Lib.hid hV
 clear hV
 have b5 : (s.run == 5) = false:=beq_eq_false_iff_ne.mpr h5
 have bv0 : (V != 0) = true:=bne_iff_ne.mpr hv0
 have bv1 : (V != 1) = true:=bne_iff_ne.mpr hv1
 clear hs h5 hv0 hv1
 go_enter Tryd.func8,Tryd.ntmps8
 go_wp2_with (fail)
 (refine (sound_yes s HSB.out A c _ (Kd.C_alloc (Kd.C_alloc HR.out _) _) HC.out (HG.out.alloc _ |>.alloc _)).mono ?_;rintro e w1 ⟨rfl,hb1⟩;have HW1:=Lib.hid ((SbIn.start w s (.slice A s.data.length c)).step hb1);clear hb1)
 have hx6:=cS6 HW1.out.box
 have hx7:=cS7 HW1.out.box
 have hx8:=cS8 HW1.out.box
 have hx9:=cS9 HW1.out.box
 have hx10:=cS10 HW1.out.box
 go_wp2_with (fail)
 clear hx6 hx7 hx8 hx9 hx10
 (refine (impl_copyFrame.calls s.ext s.id s.rtr s.dlc A c s.data s.ext s.id s.rtr s.dlc s.data _ (Kd.C_below HR.out HW1.out.below) HC.out HCP.out).mono ?_;rintro e w2 ⟨v2,rfl,hr2,hb2⟩;obtain ⟨A2,c2,rfl⟩:=Kd.R_slice hr2;have HR2:=Lib.hid hr2;have HB2:=Lib.hid hb2;have HW2:=Lib.hid (HW1.out.step hb2);clear hr2 hb2)
 go_wp2_with ((with_reducible refine gate_store (t:=29) (p:=22) rfl ?_);refine store_box rfl rfl rfl (g:=w.heap.size) (j:=6) (cs := #[.int .i64 s.field, .int .i64 s.left, .int .i64 s.run, .int .i64 s.level, .int .i64 s.crc, .int .i64 s.acc, .bool s.ext, .int .u32 s.id, .bool s.rtr, .int .i64 s.dlc,(.slice A s.data.length c)]) (cs' := #[.int .i64 s.field, .int .i64 s.left, .int .i64 s.run, .int .i64 s.level, .int .i64 s.crc, .int .i64 s.acc, .bool s.ext, .int .u32 s.id, .bool s.rtr, .int .i64 s.dlc,(.slice A2 s.data.length c2)]) (T:=31) (u := .agg #[.bool s.ext, .int .u32 s.id, .bool s.rtr, .int .i64 s.dlc,(.slice A2 s.data.length c2)]) (seg := [.bool s.ext, .int .u32 s.id, .bool s.rtr, .int .i64 s.dlc,(.slice A2 s.data.length c2)]) rfl rfl HW2.out.box rfl (by kernel_rfl) rfl rfl rfl ?_;intro w3 hx hT;have HW3:=Lib.hid (SbO.ofCopy HW1.out HB2.out HR2.out hx hT);clear hx hT;obtain ⟨hc0,hc1,hc2,hc3,hc4,hc5,hc6,hc7,hc8,hc9,hc10⟩:=cSall HW3.out.box;obtain ⟨hf0,hf1,hf2,hf3,hf4,hf5,hf6,hf7,hf8,hf9,hf10⟩:=fSall HW3.out.box)
 (refine (verdict_run s 0 V (by omega) HSB.out.l0 HVB.out (.slice A2 s.data.length c2) _).mono ?_;rintro e w4 ⟨rfl,hb4⟩;have HW4:=Lib.hid (HW3.out.step hb4);clear hb4;clear hc0 hc1 hc2 hc3 hc4 hc5 hc6 hc7 hc8 hc9 hc10 hf0 hf1 hf2 hf3 hf4 hf5 hf6 hf7 hf8 hf9 hf10;obtain ⟨hc0,hc1,hc2,hc3,hc4,hc5,hc6,hc7,hc8,hc9,hc10⟩:=cSall HW4.out.box;obtain ⟨hf0,hf1,hf2,hf3,hf4,hf5,hf6,hf7,hf8,hf9,hf10⟩:=fSall HW4.out.box)
 go_wp2_with ((with_reducible refine gate_store (t:=31) (p:=4) rfl ?_);refine store_box rfl rfl rfl (g:=w.heap.size + 1) (j:=0) (cs := #[.int .i64 0, .int .i64 0, .int .i64 0, .int .i64 0, .int .i64 0, .int .i64 0, .bool false, .int .u32 0, .bool false, .int .i64 0, .slice none 0 0]) (cs' := #[.int .i64 0, .int .i64 0, .int .i64 0, .int .i64 0, .int .i64 0, .int .i64 0, .bool false, .int .u32 0, .bool false, .int .i64 0, .slice none 0 0]) (T:=31) (u := .agg #[.int .i64 0, .int .i64 0, .int .i64 0, .int .i64 0, .int .i64 0, .int .i64 0, .bool false, .int .u32 0, .bool false, .int .i64 0, .slice none 0 0]) (seg := [.int .i64 0, .int .i64 0, .int .i64 0, .int .i64 0, .int .i64 0, .int .i64 0, .bool false, .int .u32 0, .bool false, .int .i64 0, .slice none 0 0]) rfl rfl HW4.out.res rfl (by kernel_rfl) rfl rfl rfl ?_;intro wz hx hT;have HX:=Lib.hid hx;have HTZ:=Lib.hid hT;have HBz:=Lib.hid (hT.below HW4.out.below HW4.out.below.size (fun k hk => by omega));clear hx hT)
 refine bodyPost_ret (results_ct rfl _ _ (w.heap.size + 1) 31 #[.int .i64 0, .int .i64 0, .int .i64 0, .int .i64 0, .int .i64 0, .int .i64 0, .bool false, .int .u32 0, .bool false, .int .i64 0, .slice none 0 0] (0,0) _ rfl HX.out Tryd.underlying31 rfl (by kernel_rfl)) rfl ?_
 exact ⟨rfl,HBz.out⟩
theorem scan_bad_1 (w : World) (s : SS) (A : Option Addr) (c : Nat) (hr : Kd.C (Kd.int .u8) w A s.data.length s.data) (hc : s.data.length ≤ c) (hG : LaidRows w) (hs : Sound s) (h5 : s.run ≠ 5) (hv0 : verdictV s 1 ≠ 0) (hv1 : verdictV s 1 ≠ 1) :
  Calls Tryd.prog 8 #[.agg #[.int .i64 s.field, .int .i64 s.left, .int .i64 s.run, .int .i64 s.level, .int .i64 s.crc, .int .i64 s.acc, .bool s.ext, .int .u32 s.id, .bool s.rtr, .int .i64 s.dlc,(.slice A s.data.length c)], .int .i64 1] w fun e w' => e = .returned (.tuple #[.agg #[.int .i64 0, .int .i64 0, .int .i64 0, .int .i64 0, .int .i64 0, .int .i64 0, .bool false, .int .u32 0, .bool false, .int .i64 0, .slice none 0 0], .int .i64 (verdictV s 1)]) ∧ Below w.heap.size w w':=by
 have HR:=Lib.hid hr
 have HC:=Lib.hid hc
 have HG:=Lib.hid hG
 clear hr hc hG
 have HS:=Lib.hid hs
 have HCP : Hid (impl_copyFrame.f s.ext s.id s.rtr s.dlc s.data = some (s.ext,s.id,s.rtr,s.dlc,s.data)):=Lib.hid (copy_eq (by have:=hs.dl;omega))
 have HSB : Hid (Sound s):=Lib.hid hs
 obtain ⟨V,hV⟩ : ∃ V,verdictV s 1 = V:=⟨_,rfl⟩
 rw [hV] at hv0 hv1 ⊢
 have HVB:=Lib.hid hV
 clear hV
 have b5 : (s.run == 5) = false:=beq_eq_false_iff_ne.mpr h5
 have bv0 : (V != 0) = true:=bne_iff_ne.mpr hv0
 have bv1 : (V != 1) = true:=bne_iff_ne.mpr hv1
 clear hs h5 hv0 hv1
 go_enter Tryd.func8,Tryd.ntmps8
 go_wp2_with (fail)
 (refine (sound_yes s HSB.out A c _ (Kd.C_alloc (Kd.C_alloc HR.out _) _) HC.out (HG.out.alloc _ |>.alloc _)).mono ?_;rintro e w1 ⟨rfl,hb1⟩;have HW1:=Lib.hid ((SbIn.start w s (.slice A s.data.length c)).step hb1);clear hb1)
 have hx6:=cS6 HW1.out.box
 have hx7:=cS7 HW1.out.box
 have hx8:=cS8 HW1.out.box
 have hx9:=cS9 HW1.out.box
 have hx10:=cS10 HW1.out.box
 go_wp2_with (fail)
 clear hx6 hx7 hx8 hx9 hx10
 (refine (impl_copyFrame.calls s.ext s.id s.rtr s.dlc A c s.data s.ext s.id s.rtr s.dlc s.data _ (Kd.C_below HR.out HW1.out.below) HC.out HCP.out).mono ?_;rintro e w2 ⟨v2,rfl,hr2,hb2⟩;obtain ⟨A2,c2,rfl⟩:=Kd.R_slice hr2;have HR2:=Lib.hid hr2;have HB2:=Lib.hid hb2;have HW2:=Lib.hid (HW1.out.step hb2);clear hr2 hb2)
 go_wp2_with ((with_reducible refine gate_store (t:=29) (p:=22) rfl ?_);refine store_box rfl rfl rfl (g:=w.heap.size) (j:=6) (cs := #[.int .i64 s.field, .int .i64 s.left, .int .i64 s.run, .int .i64 s.level, .int .i64 s.crc, .int .i64 s.acc, .bool s.ext, .int .u32 s.id, .bool s.rtr, .int .i64 s.dlc,(.slice A s.data.length c)]) (cs' := #[.int .i64 s.field, .int .i64 s.left, .int .i64 s.run, .int .i64 s.level, .int .i64 s.crc, .int .i64 s.acc, .bool s.ext, .int .u32 s.id, .bool s.rtr, .int .i64 s.dlc,(.slice A2 s.data.length c2)]) (T:=31) (u := .agg #[.bool s.ext, .int .u32 s.id, .bool s.rtr, .int .i64 s.dlc,(.slice A2 s.data.length c2)]) (seg := [.bool s.ext, .int .u32 s.id, .bool s.rtr, .int .i64 s.dlc,(.slice A2 s.data.length c2)]) rfl rfl HW2.out.box rfl (by kernel_rfl) rfl rfl rfl ?_;intro w3 hx hT;have HW3:=Lib.hid (SbO.ofCopy HW1.out HB2.out HR2.out hx hT);clear hx hT;obtain ⟨hc0,hc1,hc2,hc3,hc4,hc5,hc6,hc7,hc8,hc9,hc10⟩:=cSall HW3.out.box;obtain ⟨hf0,hf1,hf2,hf3,hf4,hf5,hf6,hf7,hf8,hf9,hf10⟩:=fSall HW3.out.box)
 (refine (verdict_run s 1 V (by omega) HSB.out.l0 HVB.out (.slice A2 s.data.length c2) _).mono ?_;rintro e w4 ⟨rfl,hb4⟩;have HW4:=Lib.hid (HW3.out.step hb4);clear hb4;clear hc0 hc1 hc2 hc3 hc4 hc5 hc6 hc7 hc8 hc9 hc10 hf0 hf1 hf2 hf3 hf4 hf5 hf6 hf7 hf8 hf9 hf10;obtain ⟨hc0,hc1,hc2,hc3,hc4,hc5,hc6,hc7,hc8,hc9,hc10⟩:=cSall HW4.out.box;obtain ⟨hf0,hf1,hf2,hf3,hf4,hf5,hf6,hf7,hf8,hf9,hf10⟩:=fSall HW4.out.box)
 go_wp2_with ((with_reducible refine gate_store (t:=31) (p:=4) rfl ?_);refine store_box rfl rfl rfl (g:=w.heap.size + 1) (j:=0) (cs := #[.int .i64 0, .int .i64 0, .int .i64 0, .int .i64 0, .int .i64 0, .int .i64 0, .bool false, .int .u32 0, .bool false, .int .i64 0, .slice none 0 0]) (cs' := #[.int .i64 0, .int .i64 0, .int .i64 0, .int .i64 0, .int .i64 0, .int .i64 0, .bool false, .int .u32 0, .bool false, .int .i64 0, .slice none 0 0]) (T:=31) (u := .agg #[.int .i64 0, .int .i64 0, .int .i64 0, .int .i64 0, .int .i64 0, .int .i64 0, .bool false, .int .u32 0, .bool false, .int .i64 0, .slice none 0 0]) (seg := [.int .i64 0, .int .i64 0, .int .i64 0, .int .i64 0, .int .i64 0, .int .i64 0, .bool false, .int .u32 0, .bool false, .int .i64 0, .slice none 0 0]) rfl rfl HW4.out.res rfl (by kernel_rfl) rfl rfl rfl ?_;intro wz hx hT;have HX:=Lib.hid hx;have HTZ:=Lib.hid hT;have HBz:=Lib.hid (hT.below HW4.out.below HW4.out.below.size (fun k hk => by omega));clear hx hT)
 refine bodyPost_ret (results_ct rfl _ _ (w.heap.size + 1) 31 #[.int .i64 0, .int .i64 0, .int .i64 0, .int .i64 0, .int .i64 0, .int .i64 0, .bool false, .int .u32 0, .bool false, .int .i64 0, .slice none 0 0] (0,0) _ rfl HX.out Tryd.underlying31 rfl (by kernel_rfl)) rfl ?_
 exact ⟨rfl,HBz.out⟩
theorem scan_sound (w : World) (s : SS) (A : Option Addr) (c : Nat) (b : Int) (hr : Kd.C (Kd.int .u8) w A s.data.length s.data) (hc : s.data.length ≤ c) (hG : LaidRows w) (hid : 0 ≤ s.id) (hby : ∀ x ∈ s.data,0 ≤ x ∧ x < 256) (hs : Sound s) (hb : b = 0 ∨ b = 1) :
  Calls Tryd.prog 8 #[.agg #[.int .i64 s.field, .int .i64 s.left, .int .i64 s.run, .int .i64 s.level, .int .i64 s.crc, .int .i64 s.acc, .bool s.ext, .int .u32 s.id, .bool s.rtr, .int .i64 s.dlc,(.slice A s.data.length c)], .int .i64 b] w fun e w' => ∃ v : Value,e = .returned (.tuple #[.agg #[.int .i64 (scanV s b).1.field, .int .i64 (scanV s b).1.left, .int .i64 (scanV s b).1.run, .int .i64 (scanV s b).1.level, .int .i64 (scanV s b).1.crc, .int .i64 (scanV s b).1.acc, .bool (scanV s b).1.ext, .int .u32 (scanV s b).1.id, .bool (scanV s b).1.rtr, .int .i64 (scanV s b).1.dlc,v], .int .i64 (scanV s b).2]) ∧ Kd.R (Kd.int .u8) 5 w' w.heap.size (fun _ => True) v (scanV s b).1.data ∧ Below w.heap.size w w':=by
 by_cases h5 : s.run = 5
 ·by_cases hl : b = s.level
  ·rw [show scanV s b = (zeroS,3) by unfold scanV;rw [if_pos ⟨hs,hb⟩,if_pos h5,if_pos hl]]
   refine (scan_stuff w s A c b hr hc hG hs hb h5 hl).mono ?_
   rintro e w' ⟨rfl,h⟩
   exact ⟨_,rfl,Kd.R_nil _ _ _ _ _,h⟩
  ·rw [show scanV s b = ({ s with run:=1,level:=b },0) by unfold scanV;rw [if_pos ⟨hs,hb⟩,if_pos h5,if_neg hl]]
   rcases hb with rfl | rfl
   ·exact scan_skip_0 w s A c hr hc hG hs h5 hl
   ·exact scan_skip_1 w s A c hr hc hG hs h5 hl
 ·by_cases hv01 : verdictV s b = 0 ∨ verdictV s b = 1
  ·rw [show scanV s b = (stepS (takeS (crcT (runS s b) b) b),verdictV s b) by unfold scanV;rw [if_pos ⟨hs,hb⟩,if_neg h5,if_pos hv01]]
   have hlim : s.field = 14 → s.left ≠ 1:=by
    intro h14 h1
    unfold verdictV at hv01
    rw [if_neg (by omega),if_neg (by omega),if_neg (by omega),if_neg (by omega)] at hv01
    by_cases b0 : b = 0
    ·rw [if_pos b0] at hv01;omega
    ·rw [if_neg b0,if_neg (by omega),if_pos h1] at hv01;omega
   have h14 : verdictV s b = 1 → 10 < s.field:=by
    intro h
    unfold verdictV at h
    by_cases c1 : (s.field = 1 ∧ b = 1) ∨ ((s.field = 11 ∨ s.field = 13) ∧ b = 0)
    ·rw [if_pos c1] at h;omega
    rw [if_neg c1] at h
    by_cases c2 : s.field = 13 ∧ s.acc ≠ s.crc
    ·rw [if_pos c2] at h;omega
    rw [if_neg c2] at h
    by_cases c3 : s.field ≠ 14
    ·rw [if_pos c3] at h;omega
    ·omega
   have hr0:=hs.r0
   have hq0:=hs.q
   rcases hv01 with hv | hv
   ·rw [hv]
    by_cases hq : 10 < s.field
    ·rcases hb with rfl | rfl
     ·exact scan_quiet_0_0 w s A c hr hc hG hs hid hby h5 hv hlim hq
     ·exact scan_quiet_1_0 w s A c hr hc hG hs hid hby h5 hv hlim hq
    have hq : s.field ≤ 10:=by omega
    by_cases hz : s.run = 0
    ·have hcr : s.field ≤ 9:=by have:=hq0.1 hz;omega
     rcases hb with rfl | rfl
     ·exact scan_first_crc_0_0 w s A c hr hc hG hs hid hby h5 hv hlim hq hz hcr
     ·exact scan_first_crc_1_0 w s A c hr hc hG hs hid hby h5 hv hlim hq hz hcr
    have hr1 : 0 < s.run:=by omega
    by_cases hcr : s.field ≤ 9
    ·rcases hb with rfl | rfl
     ·by_cases hlv : s.level = 0
      ·exact scan_same_crc_0_0 w s A c hr hc hG hs hid hby h5 hv hlim hq hr1 hlv hcr
      ·exact scan_other_crc_0_0 w s A c hr hc hG hs hid hby h5 hv hlim hq hr1 hlv hcr
     ·by_cases hlv : s.level = 1
      ·exact scan_same_crc_1_0 w s A c hr hc hG hs hid hby h5 hv hlim hq hr1 hlv hcr
      ·exact scan_other_crc_1_0 w s A c hr hc hG hs hid hby h5 hv hlim hq hr1 hlv hcr
    ·have hcr : s.field = 10:=by omega
     rcases hb with rfl | rfl
     ·by_cases hlv : s.level = 0
      ·exact scan_same_0_0 w s A c hr hc hG hs hid hby h5 hv hlim hq hr1 hlv hcr
      ·exact scan_other_0_0 w s A c hr hc hG hs hid hby h5 hv hlim hq hr1 hlv hcr
     ·by_cases hlv : s.level = 1
      ·exact scan_same_1_0 w s A c hr hc hG hs hid hby h5 hv hlim hq hr1 hlv hcr
      ·exact scan_other_1_0 w s A c hr hc hG hs hid hby h5 hv hlim hq hr1 hlv hcr
   ·have hq:=h14 hv
    rw [hv]
    rcases hb with rfl | rfl
    ·exact scan_quiet_0_1 w s A c hr hc hG hs hid hby h5 hv hlim hq
    ·exact scan_quiet_1_1 w s A c hr hc hG hs hid hby h5 hv hlim hq
  ·rw [show scanV s b = (zeroS,verdictV s b) by unfold scanV;rw [if_pos ⟨hs,hb⟩,if_neg h5,if_neg hv01]]
   rcases hb with rfl | rfl
   ·refine (scan_bad_0 w s A c hr hc hG hs h5 (fun h => hv01 (.inl h)) (fun h => hv01 (.inr h))).mono ?_
    rintro e w' ⟨rfl,h⟩
    exact ⟨_,rfl,Kd.R_nil _ _ _ _ _,h⟩
   ·refine (scan_bad_1 w s A c hr hc hG hs h5 (fun h => hv01 (.inl h)) (fun h => hv01 (.inr h))).mono ?_
    rintro e w' ⟨rfl,h⟩
    exact ⟨_,rfl,Kd.R_nil _ _ _ _ _,h⟩
end Go.Proofs.YtdoclpgciadjaaaDoor.P
namespace Go.Proofs.YtdoclpgciadjaaaDoor.P
open Go Go.RowKit Go.Proofs.YtdoclpgciadjaaaDoorW.PrintWords
set_option linter.unusedVariables false
def cellsK (s : SS) (v : Value) : List Value := [.int .i64 s.field, .int .i64 s.left, .int .i64 s.run, .int .i64 s.level, .int .i64 s.crc, .int .i64 s.acc, .bool s.ext, .int .u32 s.id, .bool s.rtr, .int .i64 s.dlc,v]
def KS (W : World) (s : SS) (C : List Value) : Prop := ∃ A c,C = cellsK s (.slice A s.data.length c) ∧ Kd.C (Kd.int .u8) W A s.data.length s.data ∧ s.data.length ≤ c
def MS (W : World) (base : Nat) (ok : Nat → Prop) (s : SS) (C : List Value) : Prop := ∃ v,C = cellsK s v ∧ Kd.R (Kd.int .u8) 5 W base ok v s.data
theorem KS.below {W W' : World} {s : SS} {C : List Value} (h : KS W s C) (hb : Below W.heap.size W W') : KS W' s C:=by
 obtain ⟨A,c,e,hr,hc⟩:=h
 exact ⟨A,c,e,Kd.C_below hr hb,hc⟩
theorem MS.toK {W : World} {base : Nat} {ok : Nat → Prop} {s : SS} {C : List Value} (h : MS W base ok s C) : KS W s C:=by
 obtain ⟨v,e,hr⟩:=h
 obtain ⟨A,c,rfl⟩:=Kd.R_slice hr
 have h2:=Kd.R_reads' hr
 exact ⟨A,c,e,h2.2.2,h2.2.1⟩
theorem KS.len {W : World} {s : SS} {C : List Value} (h : KS W s C) : C.length = 11:=by
 obtain ⟨A,c,rfl,_⟩:=h
 rfl
theorem KS.one {W : World} {s : SS} {C : List Value} (h : KS W s C) : ∀ u ∈ C,u.oneCell' = true:=by
 obtain ⟨A,c,rfl,_⟩:=h
 exact List.all_eq_true.1 (by kernel_rfl : (cellsK s (.slice A s.data.length c)).all (·.oneCell') = true)
theorem KS.info {W : World} {s : SS} {C : List Value} (h : KS W s C) : (Tryd.prog.info? 31).map (·.size) = some C.length:=by rw [h.len];kernel_rfl
structure Ax (w W : World) (g : Nat) (s : SS) (C : List Value) : Prop where
 blk : W.heap[g]? = some (.cells ⟨C⟩ 27 (0,0))
 ge : w.heap.size ≤ g
 key : KS w s C
 bel : Below w.heap.size w W
structure Bx (w W : World) (g n m : Nat) (s : SS) (C : List Value) : Prop where
 blk : W.heap[g]? = some (.cells ⟨C⟩ 31 (0,0))
 row : MS W w.heap.size (fun k => n ≤ k ∧ k < m) s C
 lo : w.heap.size ≤ n
 mg : n ≤ m ∧ m ≤ g
theorem Ax.K {w W : World} {g : Nat} {s : SS} {C : List Value} (h : Ax w W g s C) : KS W s C:=h.key.below h.bel
theorem Bx.K {w W : World} {g n m : Nat} {s : SS} {C : List Value} (h : Bx w W g n m s C) : KS W s C:=h.row.toK
theorem Ax.new {w W W2 : World} {g : Nat} {s : SS} {C : List Value} (hk : KS w s C) (hB : Below w.heap.size w W) (hg : g = W.heap.size) (hb : Below W.heap.size W W2) (hx : W2.heap[g]? = some (.cells ⟨C⟩ 27 (0,0))) : Ax w W2 g s C :=
 ⟨hx,by rw [hg];exact hB.size,hk,hB.trans (hb.mono hB.size)⟩
theorem Ax.step {w W W2 : World} {g : Nat} {s : SS} {C : List Value} (h : Ax w W g s C) (hb : Below W.heap.size W W2) : Ax w W2 g s C :=
 ⟨blk_below h.blk hb,h.ge,h.key,h.bel.trans (hb.mono h.bel.size)⟩
theorem Bx.step {w W W2 : World} {g n m : Nat} {s : SS} {C : List Value} (h : Bx w W g n m s C) (hb : Below W.heap.size W W2) : Bx w W2 g n m s C:=by
 obtain ⟨v,e,hr⟩:=h.row
 exact ⟨blk_below h.blk hb,⟨v,e,Kd.R_below hr hb⟩,h.lo,h.mg⟩
theorem Bx.kept {w W W2 : World} {g n m : Nat} {s : SS} {C : List Value} {S : Nat → Prop} (h : Bx w W g n m s C) (hk : Kept W W2 S) (hn : ∀ k,n ≤ k ∧ k < m → ¬ S k) (hg : ¬ S g) : Bx w W2 g n m s C:=by
 obtain ⟨v,e,hr⟩:=h.row
 exact ⟨blk_kept h.blk hk hg,⟨v,e,Kd.R_kept hr hk hn⟩,h.lo,h.mg⟩
theorem Ax.over {w W1 W2 W3 : World} {g g' : Nat} {s : SS} {C : List Value} (h : Ax w W1 g s C) (hb : Below W1.heap.size W1 W2) (hg : g' = W1.heap.size) (hT : Tch W2 W3 (fun k => k = g')) : Ax w W3 g s C:=by
 have h2:=h.step hb
 have hl:=blk_lt h.blk
 have hs:=h.bel.size
 exact ⟨hT.blk h2.blk (by intro e;omega),h.ge,h.key,hT.below h2.bel h2.bel.size (fun k hk => by omega)⟩
theorem Bx.over {w W1 W2 W3 : World} {g g' n m : Nat} {s : SS} {C : List Value} (h : Bx w W1 g n m s C) (hb : Below W1.heap.size W1 W2) (hg : g' = W1.heap.size) (hT : Tch W2 W3 (fun k => k = g')) : Bx w W3 g n m s C:=by
 have hl:=blk_lt h.blk
 have hm:=h.mg
 exact (h.step hb).kept hT.kept (fun k hk => by omega) (by omega)
theorem Bx.new {w W0 W1 W2 W3 : World} {g' : Nat} {s : SS} {C : List Value} {cs : Array Value} (hs : w.heap.size ≤ W0.heap.size) (h01 : W0.heap.size ≤ W1.heap.size) (hm : MS W1 W0.heap.size (fun _ => True) s C) (hb : Below W1.heap.size W1 W2) (hg : g' = W1.heap.size) (hx : W3.heap[g']? = some (.cells ⟨C⟩ 31 (0,0))) (hT : Tch W2 W3 (fun k => k = g')) : Bx w W3 g' W0.heap.size W1.heap.size s C:=by
 obtain ⟨v,e,hr⟩:=hm
 have h1 : Kd.R (Kd.int .u8) 5 W1 w.heap.size (fun k => W0.heap.size ≤ k ∧ k < W1.heap.size) v s.data:=Kd.R_mono (Kd.R_lower (Kd.R_bound hr) hs) (fun k hk => ⟨hk.2.1,hk.2.2.1⟩)
 have h2:=Kd.R_below h1 hb
 exact ⟨hx,⟨v,e,Kd.R_kept h2 hT.kept (fun k hk => by omega)⟩,hs,h01,by omega⟩
structure PB (N : Nat) (l x : Int) : Prop where
 x0 : 0 ≤ x
 le : (x + 1) * 2 ^ l.toNat ≤ 2 ^ N
theorem two_pos (k : Nat) : (1 : Int) ≤ 2 ^ k:=by
 induction k with
 | zero => decide
 | succ n ih => rw [Int.pow_succ];omega
theorem PB.lt {N : Nat} {l x : Int} (h : PB N l x) : x < 2 ^ N:=by
 have h1:=h.le
 have h2 : (x + 1) * 1 ≤ (x + 1) * 2 ^ l.toNat:=Int.mul_le_mul_of_nonneg_left (two_pos _) (by have:=h.x0;omega)
 omega
theorem PB.step {N : Nat} {l x b : Int} (h : PB N l x) (hl : 1 ≤ l) (hb : b = 0 ∨ b = 1) : PB N (l - 1) (2 * x + b):=by
 obtain ⟨n,rfl⟩ : ∃ n : Nat,l = (n : Int) + 1:=⟨(l - 1).toNat,by omega⟩
 have h0:=h.x0
 have hle:=h.le
 have e1 : ((n : Int) + 1).toNat = n + 1:=by omega
 have e2 : ((n : Int) + 1 - 1).toNat = n:=by omega
 rw [e1,Int.pow_succ, ← Int.mul_assoc] at hle
 refine ⟨by omega, ?_⟩
 rw [e2]
 have hP:=two_pos n
 have h3 : (2 * x + b + 1) * 2 ^ n ≤ (2 * (x + 1)) * 2 ^ n:=Int.mul_le_mul_of_nonneg_right (by omega) (by omega)
 rw [Int.mul_assoc] at h3
 omega
theorem PB.mod {N : Nat} {l x b M : Int} (h : PB N l x) (hl : 1 ≤ l) (hb : b = 0 ∨ b = 1) (hM : (2 : Int) ^ N = M) : (2 * x + b) % M = 2 * x + b:=by
 have h2:=(h.step hl hb)
 have h3:=h2.lt
 have h4:=h2.x0
 rw [hM] at h3
 exact Int.emod_eq_of_lt h4 h3
theorem crcI_range {r b : Int} (h0 : 0 ≤ r) (h1 : r ≤ 32767) (hb : b = 0 ∨ b = 1) : 0 ≤ crcI r b ∧ crcI r b ≤ 32767:=by
 obtain ⟨n,rfl⟩ : ∃ n : Nat,r = (n : Int):=⟨r.toNat,by omega⟩
 obtain ⟨m,rfl⟩ : ∃ m : Nat,b = (m : Int):=⟨b.toNat,by omega⟩
 rw [crcI_nat n m (by omega) (by omega)]
 have:=crcN_lt n m
 omega
theorem siz1 {s : SS} (h : s.field = 1) : sizeF s = 1:=by unfold sizeF;rw [if_neg (by omega),if_neg (by omega),h];rfl
theorem siz2 {s : SS} (h : s.field = 2) : sizeF s = 11:=by unfold sizeF;rw [if_neg (by omega),if_neg (by omega),h];rfl
theorem siz3 {s : SS} (h : s.field = 3) : sizeF s = 1:=by unfold sizeF;rw [if_neg (by omega),if_neg (by omega),h];rfl
theorem siz4 {s : SS} (h : s.field = 4) : sizeF s = 1:=by unfold sizeF;rw [if_neg (by omega),if_neg (by omega),h];rfl
theorem siz5 {s : SS} (h : s.field = 5) : sizeF s = 18:=by unfold sizeF;rw [if_neg (by omega),if_neg (by omega),h];rfl
theorem siz6 {s : SS} (h : s.field = 6) : sizeF s = 1:=by unfold sizeF;rw [if_neg (by omega),if_neg (by omega),h];rfl
theorem siz8 {s : SS} (h : s.field = 8) : sizeF s = 4:=by unfold sizeF;rw [if_neg (by omega),if_neg (by omega),h];rfl
theorem siz10 {s : SS} (h : s.field = 10) : sizeF s = 15:=by unfold sizeF;rw [if_neg (by omega),if_neg (by omega),h];rfl
theorem siz11 {s : SS} (h : s.field = 11) : sizeF s = 1:=by unfold sizeF;rw [if_neg (by omega),if_neg (by omega),h];rfl
theorem siz12 {s : SS} (h : s.field = 12) : sizeF s = 1:=by unfold sizeF;rw [if_neg (by omega),if_neg (by omega),h];rfl
theorem siz13 {s : SS} (h : s.field = 13) : sizeF s = 1:=by unfold sizeF;rw [if_neg (by omega),if_neg (by omega),h];rfl
theorem siz14 {s : SS} (h : s.field = 14) : sizeF s = 7:=by unfold sizeF;rw [if_neg (by omega),if_neg (by omega),h];rfl
theorem siz7 {s : SS} (h : s.field = 7) : sizeF s = if s.ext = true then 2 else 1:=by
 unfold sizeF
 by_cases c : s.ext = true
 ·rw [if_pos ⟨h,c⟩,if_pos c]
 ·rw [if_neg (fun x => c x.2),if_neg (by omega),if_neg c,h];rfl
theorem siz9 {s : SS} (h : s.field = 9) : sizeF s = 8 * (if s.dlc < 8 then s.dlc else 8):=by unfold sizeF;rw [if_neg (by omega),if_pos h]
theorem aft1 {s : SS} (h : s.field = 1) : afterF s = 2:=by unfold afterF;rw [if_neg (by omega),if_neg (by omega),h];rfl
theorem aft2 {s : SS} (h : s.field = 2) : afterF s = 3:=by unfold afterF;rw [if_neg (by omega),if_neg (by omega),h];rfl
theorem aft3 {s : SS} (h : s.field = 3) : afterF s = 4:=by unfold afterF;rw [if_neg (by omega),if_neg (by omega),h];rfl
theorem aft5 {s : SS} (h : s.field = 5) : afterF s = 6:=by unfold afterF;rw [if_neg (by omega),if_neg (by omega),h];rfl
theorem aft6 {s : SS} (h : s.field = 6) : afterF s = 7:=by unfold afterF;rw [if_neg (by omega),if_neg (by omega),h];rfl
theorem aft7 {s : SS} (h : s.field = 7) : afterF s = 8:=by unfold afterF;rw [if_neg (by omega),if_neg (by omega),h];rfl
theorem aft9 {s : SS} (h : s.field = 9) : afterF s = 10:=by unfold afterF;rw [if_neg (by omega),if_neg (by omega),h];rfl
theorem aft10 {s : SS} (h : s.field = 10) : afterF s = 11:=by unfold afterF;rw [if_neg (by omega),if_neg (by omega),h];rfl
theorem aft11 {s : SS} (h : s.field = 11) : afterF s = 12:=by unfold afterF;rw [if_neg (by omega),if_neg (by omega),h];rfl
theorem aft12 {s : SS} (h : s.field = 12) : afterF s = 13:=by unfold afterF;rw [if_neg (by omega),if_neg (by omega),h];rfl
theorem aft13 {s : SS} (h : s.field = 13) : afterF s = 14:=by unfold afterF;rw [if_neg (by omega),if_neg (by omega),h];rfl
theorem aft4 {s : SS} (h : s.field = 4) : afterF s = if s.ext = false then 7 else 5:=by
 unfold afterF
 by_cases c : s.ext = false
 ·rw [if_pos ⟨h,c⟩,if_pos c]
 ·rw [if_neg (fun x => c x.2),if_neg (by omega),if_neg c,h];rfl
theorem aft8 {s : SS} (h : s.field = 8) : afterF s = if s.rtr = true ∨ s.dlc = 0 then 10 else 9:=by
 unfold afterF
 rw [if_neg (by omega)]
 by_cases c : s.rtr = true ∨ s.dlc = 0
 ·rw [if_pos ⟨h,c⟩,if_pos c]
 ·rw [if_neg (fun x => c x.2),if_neg c,h];rfl
structure SInv (s : SS) : Prop where
 f0 : 1 ≤ s.field
 f1 : s.field ≤ 14
 l0 : 1 ≤ s.left
 l1 : s.left ≤ sizeF s
 r0 : 0 ≤ s.run
 r1 : s.run ≤ 5
 v0 : 0 ≤ s.level
 v1 : s.level ≤ 1
 q : s.run = 0 ↔ (s.field = 1 ∨ s.field > 11)
 z : s.run = 0 → s.level = 0
 c0 : 0 ≤ s.crc
 c1 : s.crc ≤ 32767
 ig : 0 ≤ s.id ∧ s.id < 536870912
 i1 : s.field = 1 → s.id = 0
 i2 : s.field = 2 → PB 11 (s.left) s.id
 i3 : s.field = 3 ∨ s.field = 4 → s.id < 2048
 i5 : s.field = 5 → PB 29 (s.left) s.id
 dg : 0 ≤ s.dlc ∧ s.dlc ≤ 15
 d0 : s.field < 8 → s.dlc = 0
 d8 : s.field = 8 → PB 4 (s.left) s.dlc
 ag : 0 ≤ s.acc ∧ s.acc ≤ 32767
 a0 : s.field < 10 → s.acc = 0
 a10 : s.field = 10 → PB 15 (s.left) s.acc
 x0 : s.field < 9 → s.data = []
 x9 : s.field = 9 → s.rtr = false ∧ 0 < s.dlc ∧ (s.data.length : Int) = (sizeF s - (s.left) + 7) / 8
 xl : s.data.length ≤ 8
 by_ : ∀ x ∈ s.data,0 ≤ x ∧ x < 256
structure TInv (s : SS) : Prop where
 f0 : 1 ≤ s.field
 f1 : s.field ≤ 14
 l0 : 1 ≤ s.left
 l1 : s.left ≤ sizeF s
 r0 : 0 ≤ s.run
 r1 : s.run ≤ 5
 v0 : 0 ≤ s.level
 v1 : s.level ≤ 1
 q1 : s.field ≤ 10 → 1 ≤ s.run
 q2 : 10 < s.field → s.run = 0 ∧ s.level = 0
 lim : s.field = 14 → 2 ≤ s.left
 c0 : 0 ≤ s.crc
 c1 : s.crc ≤ 32767
 ig : 0 ≤ s.id ∧ s.id < 536870912
 i1 : s.field = 1 → s.id = 0
 i2 : s.field = 2 → PB 11 (s.left - 1) s.id
 i3 : s.field = 3 ∨ s.field = 4 → s.id < 2048
 i5 : s.field = 5 → PB 29 (s.left - 1) s.id
 dg : 0 ≤ s.dlc ∧ s.dlc ≤ 15
 d0 : s.field < 8 → s.dlc = 0
 d8 : s.field = 8 → PB 4 (s.left - 1) s.dlc
 ag : 0 ≤ s.acc ∧ s.acc ≤ 32767
 a0 : s.field < 10 → s.acc = 0
 a10 : s.field = 10 → PB 15 (s.left - 1) s.acc
 x0 : s.field < 9 → s.data = []
 x9 : s.field = 9 → s.rtr = false ∧ 0 < s.dlc ∧ (s.data.length : Int) = (sizeF s - (s.left - 1) + 7) / 8
 xl : s.data.length ≤ 8
 by_ : ∀ x ∈ s.data,0 ≤ x ∧ x < 256
theorem SInv.sound {s : SS} (h : SInv s) : Sound s :=
 ⟨h.f0,h.f1,h.ig.2,h.dg.1,h.dg.2,by have:=h.xl;omega,h.l0,h.l1,h.r0,h.r1,h.v0,h.v1,h.q,h.z,h.c0,h.c1,h.ag.1,h.ag.2,h.x9⟩
def startS : SS:=⟨1,1,0,0,0,0,false,0,false,0, []⟩
theorem SInv.start : SInv startS:=by
 refine ⟨by decide,by decide,by decide,by decide,by decide,by decide,by decide,by decide,by decide,by decide,by decide,by decide,by decide,fun _ => rfl,fun h => ?_,by decide,fun h => ?_,by decide,fun _ => rfl,fun h => ?_,by decide,fun _ => rfl,fun h => ?_,fun _ => rfl,fun h => ?_,by decide,fun x hx => by cases hx⟩ <;> exact absurd h (by decide)
theorem TInv.step {t : SS} (h : TInv t) : SInv (stepS t):=by
 unfold stepS
 have f0:=h.f0
 have f1:=h.f1
 have l0:=h.l0
 have l1:=h.l1
 by_cases hl : t.left - 1 = 0
 ·rw [if_pos hl]
  have hl1 : t.left = 1:=by omega
  have hf : t.field = 1 ∨ t.field = 2 ∨ t.field = 3 ∨ t.field = 4 ∨ t.field = 5 ∨ t.field = 6 ∨ t.field = 7 ∨ t.field = 8 ∨ t.field = 9 ∨ t.field = 10 ∨ t.field = 11 ∨ t.field = 12 ∨ t.field = 13:=by have:=h.lim;omega
  have go : ∀ (f : Int),f ≠ 9 → enterS t f = { t with field:=f,left:=sizeF { t with field:=f } }:=fun f hn => by unfold enterS;rw [if_neg hn]
  have q1:=h.q1
  have q2:=h.q2
  rcases hf with hf | hf | hf | hf | hf | hf | hf | hf | hf | hf | hf | hf | hf
  ·rw [aft1 hf]
   rw [go 2 (by decide)]
   have hz : sizeF { t with field:=2 } = 11:=siz2 rfl
   rw [hz]
   refine ⟨?f0, ?f1, ?l0, ?l1,h.r0,h.r1,h.v0,h.v1, ?q, ?z,h.c0,h.c1,h.ig, ?i1, ?i2, ?i3, ?i5,h.dg, ?d0, ?d8,h.ag, ?a0, ?a10, ?x0, ?x9,h.xl,h.by_⟩
   case f0 => simp only [];omega
   case f1 => simp only [];omega
   case l0 => simp only [];omega
   case l1 => exact Int.le_of_eq hz.symm
   case q => simp only [];omega
   case z => intro e;simp only [] at e ⊢;omega
   case i1 => intro x;exfalso;first | (simp only [] at x;done) | (simp only [] at x;omega)
   case i2 => intro _;have:=h.i1 hf;exact ⟨by simp only [];omega,by simp only [];rw [this];decide⟩
   case i3 => intro x;exfalso;first | (simp only [] at x;done) | (simp only [] at x;omega)
   case i5 => intro x;exfalso;first | (simp only [] at x;done) | (simp only [] at x;omega)
   case d0 => intro _;exact h.d0 (by omega)
   case d8 => intro x;exfalso;first | (simp only [] at x;done) | (simp only [] at x;omega)
   case a0 => intro _;exact h.a0 (by omega)
   case a10 => intro x;exfalso;first | (simp only [] at x;done) | (simp only [] at x;omega)
   case x0 => intro _;exact h.x0 (by omega)
   case x9 => intro x;exfalso;first | (simp only [] at x;done) | (simp only [] at x;omega)
  ·rw [aft2 hf]
   rw [go 3 (by decide)]
   have hz : sizeF { t with field:=3 } = 1:=siz3 rfl
   rw [hz]
   refine ⟨?f0, ?f1, ?l0, ?l1,h.r0,h.r1,h.v0,h.v1, ?q, ?z,h.c0,h.c1,h.ig, ?i1, ?i2, ?i3, ?i5,h.dg, ?d0, ?d8,h.ag, ?a0, ?a10, ?x0, ?x9,h.xl,h.by_⟩
   case f0 => simp only [];omega
   case f1 => simp only [];omega
   case l0 => simp only [];omega
   case l1 => exact Int.le_of_eq hz.symm
   case q => simp only [];omega
   case z => intro e;simp only [] at e ⊢;omega
   case i1 => intro x;exfalso;first | (simp only [] at x;done) | (simp only [] at x;omega)
   case i2 => intro x;exfalso;first | (simp only [] at x;done) | (simp only [] at x;omega)
   case i3 => intro _;have:=(h.i2 hf).lt;simp only [];exact this
   case i5 => intro x;exfalso;first | (simp only [] at x;done) | (simp only [] at x;omega)
   case d0 => intro _;exact h.d0 (by omega)
   case d8 => intro x;exfalso;first | (simp only [] at x;done) | (simp only [] at x;omega)
   case a0 => intro _;exact h.a0 (by omega)
   case a10 => intro x;exfalso;first | (simp only [] at x;done) | (simp only [] at x;omega)
   case x0 => intro _;exact h.x0 (by omega)
   case x9 => intro x;exfalso;first | (simp only [] at x;done) | (simp only [] at x;omega)
  ·rw [aft3 hf]
   rw [go 4 (by decide)]
   have hz : sizeF { t with field:=4 } = 1:=siz4 rfl
   rw [hz]
   refine ⟨?f0, ?f1, ?l0, ?l1,h.r0,h.r1,h.v0,h.v1, ?q, ?z,h.c0,h.c1,h.ig, ?i1, ?i2, ?i3, ?i5,h.dg, ?d0, ?d8,h.ag, ?a0, ?a10, ?x0, ?x9,h.xl,h.by_⟩
   case f0 => simp only [];omega
   case f1 => simp only [];omega
   case l0 => simp only [];omega
   case l1 => exact Int.le_of_eq hz.symm
   case q => simp only [];omega
   case z => intro e;simp only [] at e ⊢;omega
   case i1 => intro x;exfalso;first | (simp only [] at x;done) | (simp only [] at x;omega)
   case i2 => intro x;exfalso;first | (simp only [] at x;done) | (simp only [] at x;omega)
   case i3 => intro _;exact h.i3 (.inl hf)
   case i5 => intro x;exfalso;first | (simp only [] at x;done) | (simp only [] at x;omega)
   case d0 => intro _;exact h.d0 (by omega)
   case d8 => intro x;exfalso;first | (simp only [] at x;done) | (simp only [] at x;omega)
   case a0 => intro _;exact h.a0 (by omega)
   case a10 => intro x;exfalso;first | (simp only [] at x;done) | (simp only [] at x;omega)
   case x0 => intro _;exact h.x0 (by omega)
   case x9 => intro x;exfalso;first | (simp only [] at x;done) | (simp only [] at x;omega)
  ·rw [aft4 hf]
   by_cases ce : t.ext = false
   ·rw [if_pos ce]
    rw [go 7 (by decide)]
    have hz : sizeF { t with field:=7 } = 1:=(siz7 rfl).trans (if_neg (by simp only [];rw [ce];decide))
    rw [hz]
    refine ⟨?f0, ?f1, ?l0, ?l1,h.r0,h.r1,h.v0,h.v1, ?q, ?z,h.c0,h.c1,h.ig, ?i1, ?i2, ?i3, ?i5,h.dg, ?d0, ?d8,h.ag, ?a0, ?a10, ?x0, ?x9,h.xl,h.by_⟩
    case f0 => simp only [];omega
    case f1 => simp only [];omega
    case l0 => simp only [];omega
    case l1 => exact Int.le_of_eq hz.symm
    case q => simp only [];omega
    case z => intro e;simp only [] at e ⊢;omega
    case i1 => intro x;exfalso;first | (simp only [] at x;done) | (simp only [] at x;omega)
    case i2 => intro x;exfalso;first | (simp only [] at x;done) | (simp only [] at x;omega)
    case i3 => intro x;exfalso;first | (simp only [] at x;done) | (simp only [] at x;omega)
    case i5 => intro x;exfalso;first | (simp only [] at x;done) | (simp only [] at x;omega)
    case d0 => intro _;exact h.d0 (by omega)
    case d8 => intro x;exfalso;first | (simp only [] at x;done) | (simp only [] at x;omega)
    case a0 => intro _;exact h.a0 (by omega)
    case a10 => intro x;exfalso;first | (simp only [] at x;done) | (simp only [] at x;omega)
    case x0 => intro _;exact h.x0 (by omega)
    case x9 => intro x;exfalso;first | (simp only [] at x;done) | (simp only [] at x;omega)
   ·rw [if_neg ce]
    rw [go 5 (by decide)]
    have hz : sizeF { t with field:=5 } = 18:=siz5 rfl
    rw [hz]
    refine ⟨?f0, ?f1, ?l0, ?l1,h.r0,h.r1,h.v0,h.v1, ?q, ?z,h.c0,h.c1,h.ig, ?i1, ?i2, ?i3, ?i5,h.dg, ?d0, ?d8,h.ag, ?a0, ?a10, ?x0, ?x9,h.xl,h.by_⟩
    case f0 => simp only [];omega
    case f1 => simp only [];omega
    case l0 => simp only [];omega
    case l1 => exact Int.le_of_eq hz.symm
    case q => simp only [];omega
    case z => intro e;simp only [] at e ⊢;omega
    case i1 => intro x;exfalso;first | (simp only [] at x;done) | (simp only [] at x;omega)
    case i2 => intro x;exfalso;first | (simp only [] at x;done) | (simp only [] at x;omega)
    case i3 => intro x;exfalso;first | (simp only [] at x;done) | (simp only [] at x;omega)
    case i5 => intro _;have h3:=h.i3 (.inr hf);have h0:=h.ig.1;exact ⟨h0,by simp only [];rw [show (18 : Int).toNat = 18 from rfl,show (2 : Int) ^ 18 = 262144 from rfl,show (2 : Int) ^ 29 = 536870912 from rfl];omega⟩
    case d0 => intro _;exact h.d0 (by omega)
    case d8 => intro x;exfalso;first | (simp only [] at x;done) | (simp only [] at x;omega)
    case a0 => intro _;exact h.a0 (by omega)
    case a10 => intro x;exfalso;first | (simp only [] at x;done) | (simp only [] at x;omega)
    case x0 => intro _;exact h.x0 (by omega)
    case x9 => intro x;exfalso;first | (simp only [] at x;done) | (simp only [] at x;omega)
  ·rw [aft5 hf]
   rw [go 6 (by decide)]
   have hz : sizeF { t with field:=6 } = 1:=siz6 rfl
   rw [hz]
   refine ⟨?f0, ?f1, ?l0, ?l1,h.r0,h.r1,h.v0,h.v1, ?q, ?z,h.c0,h.c1,h.ig, ?i1, ?i2, ?i3, ?i5,h.dg, ?d0, ?d8,h.ag, ?a0, ?a10, ?x0, ?x9,h.xl,h.by_⟩
   case f0 => simp only [];omega
   case f1 => simp only [];omega
   case l0 => simp only [];omega
   case l1 => exact Int.le_of_eq hz.symm
   case q => simp only [];omega
   case z => intro e;simp only [] at e ⊢;omega
   case i1 => intro x;exfalso;first | (simp only [] at x;done) | (simp only [] at x;omega)
   case i2 => intro x;exfalso;first | (simp only [] at x;done) | (simp only [] at x;omega)
   case i3 => intro x;exfalso;first | (simp only [] at x;done) | (simp only [] at x;omega)
   case i5 => intro x;exfalso;first | (simp only [] at x;done) | (simp only [] at x;omega)
   case d0 => intro _;exact h.d0 (by omega)
   case d8 => intro x;exfalso;first | (simp only [] at x;done) | (simp only [] at x;omega)
   case a0 => intro _;exact h.a0 (by omega)
   case a10 => intro x;exfalso;first | (simp only [] at x;done) | (simp only [] at x;omega)
   case x0 => intro _;exact h.x0 (by omega)
   case x9 => intro x;exfalso;first | (simp only [] at x;done) | (simp only [] at x;omega)
  ·rw [aft6 hf]
   by_cases ce : t.ext = true
   ·skip
    rw [go 7 (by decide)]
    have hz : sizeF { t with field:=7 } = 2:=(siz7 rfl).trans (if_pos ce)
    rw [hz]
    refine ⟨?f0, ?f1, ?l0, ?l1,h.r0,h.r1,h.v0,h.v1, ?q, ?z,h.c0,h.c1,h.ig, ?i1, ?i2, ?i3, ?i5,h.dg, ?d0, ?d8,h.ag, ?a0, ?a10, ?x0, ?x9,h.xl,h.by_⟩
    case f0 => simp only [];omega
    case f1 => simp only [];omega
    case l0 => simp only [];omega
    case l1 => exact Int.le_of_eq hz.symm
    case q => simp only [];omega
    case z => intro e;simp only [] at e ⊢;omega
    case i1 => intro x;exfalso;first | (simp only [] at x;done) | (simp only [] at x;omega)
    case i2 => intro x;exfalso;first | (simp only [] at x;done) | (simp only [] at x;omega)
    case i3 => intro x;exfalso;first | (simp only [] at x;done) | (simp only [] at x;omega)
    case i5 => intro x;exfalso;first | (simp only [] at x;done) | (simp only [] at x;omega)
    case d0 => intro _;exact h.d0 (by omega)
    case d8 => intro x;exfalso;first | (simp only [] at x;done) | (simp only [] at x;omega)
    case a0 => intro _;exact h.a0 (by omega)
    case a10 => intro x;exfalso;first | (simp only [] at x;done) | (simp only [] at x;omega)
    case x0 => intro _;exact h.x0 (by omega)
    case x9 => intro x;exfalso;first | (simp only [] at x;done) | (simp only [] at x;omega)
   ·skip
    rw [go 7 (by decide)]
    have hz : sizeF { t with field:=7 } = 1:=(siz7 rfl).trans (if_neg ce)
    rw [hz]
    refine ⟨?f0, ?f1, ?l0, ?l1,h.r0,h.r1,h.v0,h.v1, ?q, ?z,h.c0,h.c1,h.ig, ?i1, ?i2, ?i3, ?i5,h.dg, ?d0, ?d8,h.ag, ?a0, ?a10, ?x0, ?x9,h.xl,h.by_⟩
    case f0 => simp only [];omega
    case f1 => simp only [];omega
    case l0 => simp only [];omega
    case l1 => exact Int.le_of_eq hz.symm
    case q => simp only [];omega
    case z => intro e;simp only [] at e ⊢;omega
    case i1 => intro x;exfalso;first | (simp only [] at x;done) | (simp only [] at x;omega)
    case i2 => intro x;exfalso;first | (simp only [] at x;done) | (simp only [] at x;omega)
    case i3 => intro x;exfalso;first | (simp only [] at x;done) | (simp only [] at x;omega)
    case i5 => intro x;exfalso;first | (simp only [] at x;done) | (simp only [] at x;omega)
    case d0 => intro _;exact h.d0 (by omega)
    case d8 => intro x;exfalso;first | (simp only [] at x;done) | (simp only [] at x;omega)
    case a0 => intro _;exact h.a0 (by omega)
    case a10 => intro x;exfalso;first | (simp only [] at x;done) | (simp only [] at x;omega)
    case x0 => intro _;exact h.x0 (by omega)
    case x9 => intro x;exfalso;first | (simp only [] at x;done) | (simp only [] at x;omega)
  ·rw [aft7 hf]
   rw [go 8 (by decide)]
   have hz : sizeF { t with field:=8 } = 4:=siz8 rfl
   rw [hz]
   refine ⟨?f0, ?f1, ?l0, ?l1,h.r0,h.r1,h.v0,h.v1, ?q, ?z,h.c0,h.c1,h.ig, ?i1, ?i2, ?i3, ?i5,h.dg, ?d0, ?d8,h.ag, ?a0, ?a10, ?x0, ?x9,h.xl,h.by_⟩
   case f0 => simp only [];omega
   case f1 => simp only [];omega
   case l0 => simp only [];omega
   case l1 => exact Int.le_of_eq hz.symm
   case q => simp only [];omega
   case z => intro e;simp only [] at e ⊢;omega
   case i1 => intro x;exfalso;first | (simp only [] at x;done) | (simp only [] at x;omega)
   case i2 => intro x;exfalso;first | (simp only [] at x;done) | (simp only [] at x;omega)
   case i3 => intro x;exfalso;first | (simp only [] at x;done) | (simp only [] at x;omega)
   case i5 => intro x;exfalso;first | (simp only [] at x;done) | (simp only [] at x;omega)
   case d0 => intro x;exfalso;first | (simp only [] at x;done) | (simp only [] at x;omega)
   case d8 => intro _;have:=h.d0 (by omega);exact ⟨by simp only [];omega,by simp only [];rw [this];decide⟩
   case a0 => intro _;exact h.a0 (by omega)
   case a10 => intro x;exfalso;first | (simp only [] at x;done) | (simp only [] at x;omega)
   case x0 => intro _;exact h.x0 (by omega)
   case x9 => intro x;exfalso;first | (simp only [] at x;done) | (simp only [] at x;omega)
  ·rw [aft8 hf]
   by_cases cr : t.rtr = true ∨ t.dlc = 0
   ·rw [if_pos cr]
    rw [go 10 (by decide)]
    have hz : sizeF { t with field:=10 } = 15:=siz10 rfl
    rw [hz]
    refine ⟨?f0, ?f1, ?l0, ?l1,h.r0,h.r1,h.v0,h.v1, ?q, ?z,h.c0,h.c1,h.ig, ?i1, ?i2, ?i3, ?i5,h.dg, ?d0, ?d8,h.ag, ?a0, ?a10, ?x0, ?x9,h.xl,h.by_⟩
    case f0 => simp only [];omega
    case f1 => simp only [];omega
    case l0 => simp only [];omega
    case l1 => exact Int.le_of_eq hz.symm
    case q => simp only [];omega
    case z => intro e;simp only [] at e ⊢;omega
    case i1 => intro x;exfalso;first | (simp only [] at x;done) | (simp only [] at x;omega)
    case i2 => intro x;exfalso;first | (simp only [] at x;done) | (simp only [] at x;omega)
    case i3 => intro x;exfalso;first | (simp only [] at x;done) | (simp only [] at x;omega)
    case i5 => intro x;exfalso;first | (simp only [] at x;done) | (simp only [] at x;omega)
    case d0 => intro x;exfalso;first | (simp only [] at x;done) | (simp only [] at x;omega)
    case d8 => intro x;exfalso;first | (simp only [] at x;done) | (simp only [] at x;omega)
    case a0 => intro x;exfalso;first | (simp only [] at x;done) | (simp only [] at x;omega)
    case a10 => intro _;have:=h.a0 (by omega);exact ⟨by simp only [];omega,by simp only [];rw [this];decide⟩
    case x0 => intro x;exfalso;first | (simp only [] at x;done) | (simp only [] at x;omega)
    case x9 => intro x;exfalso;first | (simp only [] at x;done) | (simp only [] at x;omega)
   ·rw [if_neg cr]
    have hr : t.rtr = false:=by cases hh : t.rtr with | true => exact absurd (.inl hh) cr | false => rfl
    have hd : 0 < t.dlc:=by have:=h.dg.1;rcases (show t.dlc = 0 ∨ 0 < t.dlc by omega) with e | e;exact absurd (.inr e) cr;exact e
    have e9 : enterS t 9 = { t with field:=9,left:=sizeF { t with field:=9 },data := [] }:=by unfold enterS;rw [if_pos rfl]
    have hx : t.data = []:=h.x0 (by omega)
    rw [e9]
    have hz : sizeF { t with field:=9 } = 8 * (if t.dlc < 8 then t.dlc else 8):=siz9 rfl
    have hz2 : sizeF { t with field:=9,left:=sizeF { t with field:=9 },data := [] } = 8 * (if t.dlc < 8 then t.dlc else 8):=siz9 rfl
    rw [hz] at hz2 ⊢
    refine ⟨by simp only [];omega,by simp only [];omega,by simp only [];split <;> omega,Int.le_of_eq hz2.symm,h.r0,h.r1,h.v0,h.v1,by simp only [];omega,fun e => by simp only [] at e ⊢;omega,h.c0,h.c1,h.ig,fun x => by exfalso;first | (simp only [] at x;done) | (simp only [] at x;omega),fun x => by exfalso;first | (simp only [] at x;done) | (simp only [] at x;omega),fun x => by exfalso;first | (simp only [] at x;done) | (simp only [] at x;omega),fun x => by exfalso;first | (simp only [] at x;done) | (simp only [] at x;omega),h.dg,fun x => by exfalso;first | (simp only [] at x;done) | (simp only [] at x;omega),fun x => by exfalso;first | (simp only [] at x;done) | (simp only [] at x;omega),h.ag,fun _ => h.a0 (by omega),fun x => by exfalso;first | (simp only [] at x;done) | (simp only [] at x;omega),fun x => by exfalso;first | (simp only [] at x;done) | (simp only [] at x;omega),fun _ => ⟨hr,hd, ?_⟩,Nat.zero_le _,fun x hx => by cases hx⟩
    rw [hz2]
    simp only [List.length_nil]
    omega
  ·rw [aft9 hf]
   rw [go 10 (by decide)]
   have hz : sizeF { t with field:=10 } = 15:=siz10 rfl
   rw [hz]
   refine ⟨?f0, ?f1, ?l0, ?l1,h.r0,h.r1,h.v0,h.v1, ?q, ?z,h.c0,h.c1,h.ig, ?i1, ?i2, ?i3, ?i5,h.dg, ?d0, ?d8,h.ag, ?a0, ?a10, ?x0, ?x9,h.xl,h.by_⟩
   case f0 => simp only [];omega
   case f1 => simp only [];omega
   case l0 => simp only [];omega
   case l1 => exact Int.le_of_eq hz.symm
   case q => simp only [];omega
   case z => intro e;simp only [] at e ⊢;omega
   case i1 => intro x;exfalso;first | (simp only [] at x;done) | (simp only [] at x;omega)
   case i2 => intro x;exfalso;first | (simp only [] at x;done) | (simp only [] at x;omega)
   case i3 => intro x;exfalso;first | (simp only [] at x;done) | (simp only [] at x;omega)
   case i5 => intro x;exfalso;first | (simp only [] at x;done) | (simp only [] at x;omega)
   case d0 => intro x;exfalso;first | (simp only [] at x;done) | (simp only [] at x;omega)
   case d8 => intro x;exfalso;first | (simp only [] at x;done) | (simp only [] at x;omega)
   case a0 => intro x;exfalso;first | (simp only [] at x;done) | (simp only [] at x;omega)
   case a10 => intro _;have:=h.a0 (by omega);exact ⟨by simp only [];omega,by simp only [];rw [this];decide⟩
   case x0 => intro x;exfalso;first | (simp only [] at x;done) | (simp only [] at x;omega)
   case x9 => intro x;exfalso;first | (simp only [] at x;done) | (simp only [] at x;omega)
  ·rw [aft10 hf]
   rw [go 11 (by decide)]
   have hz : sizeF { t with field:=11 } = 1:=siz11 rfl
   rw [hz]
   refine ⟨?f0, ?f1, ?l0, ?l1,h.r0,h.r1,h.v0,h.v1, ?q, ?z,h.c0,h.c1,h.ig, ?i1, ?i2, ?i3, ?i5,h.dg, ?d0, ?d8,h.ag, ?a0, ?a10, ?x0, ?x9,h.xl,h.by_⟩
   case f0 => simp only [];omega
   case f1 => simp only [];omega
   case l0 => simp only [];omega
   case l1 => exact Int.le_of_eq hz.symm
   case q => simp only [];omega
   case z => intro e;simp only [] at e ⊢;omega
   case i1 => intro x;exfalso;first | (simp only [] at x;done) | (simp only [] at x;omega)
   case i2 => intro x;exfalso;first | (simp only [] at x;done) | (simp only [] at x;omega)
   case i3 => intro x;exfalso;first | (simp only [] at x;done) | (simp only [] at x;omega)
   case i5 => intro x;exfalso;first | (simp only [] at x;done) | (simp only [] at x;omega)
   case d0 => intro x;exfalso;first | (simp only [] at x;done) | (simp only [] at x;omega)
   case d8 => intro x;exfalso;first | (simp only [] at x;done) | (simp only [] at x;omega)
   case a0 => intro x;exfalso;first | (simp only [] at x;done) | (simp only [] at x;omega)
   case a10 => intro x;exfalso;first | (simp only [] at x;done) | (simp only [] at x;omega)
   case x0 => intro x;exfalso;first | (simp only [] at x;done) | (simp only [] at x;omega)
   case x9 => intro x;exfalso;first | (simp only [] at x;done) | (simp only [] at x;omega)
  ·rw [aft11 hf]
   rw [go 12 (by decide)]
   have hz : sizeF { t with field:=12 } = 1:=siz12 rfl
   rw [hz]
   refine ⟨?f0, ?f1, ?l0, ?l1,h.r0,h.r1,h.v0,h.v1, ?q, ?z,h.c0,h.c1,h.ig, ?i1, ?i2, ?i3, ?i5,h.dg, ?d0, ?d8,h.ag, ?a0, ?a10, ?x0, ?x9,h.xl,h.by_⟩
   case f0 => simp only [];omega
   case f1 => simp only [];omega
   case l0 => simp only [];omega
   case l1 => exact Int.le_of_eq hz.symm
   case q => simp only [];omega
   case z => intro e;simp only [] at e ⊢;omega
   case i1 => intro x;exfalso;first | (simp only [] at x;done) | (simp only [] at x;omega)
   case i2 => intro x;exfalso;first | (simp only [] at x;done) | (simp only [] at x;omega)
   case i3 => intro x;exfalso;first | (simp only [] at x;done) | (simp only [] at x;omega)
   case i5 => intro x;exfalso;first | (simp only [] at x;done) | (simp only [] at x;omega)
   case d0 => intro x;exfalso;first | (simp only [] at x;done) | (simp only [] at x;omega)
   case d8 => intro x;exfalso;first | (simp only [] at x;done) | (simp only [] at x;omega)
   case a0 => intro x;exfalso;first | (simp only [] at x;done) | (simp only [] at x;omega)
   case a10 => intro x;exfalso;first | (simp only [] at x;done) | (simp only [] at x;omega)
   case x0 => intro x;exfalso;first | (simp only [] at x;done) | (simp only [] at x;omega)
   case x9 => intro x;exfalso;first | (simp only [] at x;done) | (simp only [] at x;omega)
  ·rw [aft12 hf]
   rw [go 13 (by decide)]
   have hz : sizeF { t with field:=13 } = 1:=siz13 rfl
   rw [hz]
   refine ⟨?f0, ?f1, ?l0, ?l1,h.r0,h.r1,h.v0,h.v1, ?q, ?z,h.c0,h.c1,h.ig, ?i1, ?i2, ?i3, ?i5,h.dg, ?d0, ?d8,h.ag, ?a0, ?a10, ?x0, ?x9,h.xl,h.by_⟩
   case f0 => simp only [];omega
   case f1 => simp only [];omega
   case l0 => simp only [];omega
   case l1 => exact Int.le_of_eq hz.symm
   case q => simp only [];omega
   case z => intro e;simp only [] at e ⊢;omega
   case i1 => intro x;exfalso;first | (simp only [] at x;done) | (simp only [] at x;omega)
   case i2 => intro x;exfalso;first | (simp only [] at x;done) | (simp only [] at x;omega)
   case i3 => intro x;exfalso;first | (simp only [] at x;done) | (simp only [] at x;omega)
   case i5 => intro x;exfalso;first | (simp only [] at x;done) | (simp only [] at x;omega)
   case d0 => intro x;exfalso;first | (simp only [] at x;done) | (simp only [] at x;omega)
   case d8 => intro x;exfalso;first | (simp only [] at x;done) | (simp only [] at x;omega)
   case a0 => intro x;exfalso;first | (simp only [] at x;done) | (simp only [] at x;omega)
   case a10 => intro x;exfalso;first | (simp only [] at x;done) | (simp only [] at x;omega)
   case x0 => intro x;exfalso;first | (simp only [] at x;done) | (simp only [] at x;omega)
   case x9 => intro x;exfalso;first | (simp only [] at x;done) | (simp only [] at x;omega)
  ·rw [aft13 hf]
   rw [go 14 (by decide)]
   have hz : sizeF { t with field:=14 } = 7:=siz14 rfl
   rw [hz]
   refine ⟨?f0, ?f1, ?l0, ?l1,h.r0,h.r1,h.v0,h.v1, ?q, ?z,h.c0,h.c1,h.ig, ?i1, ?i2, ?i3, ?i5,h.dg, ?d0, ?d8,h.ag, ?a0, ?a10, ?x0, ?x9,h.xl,h.by_⟩
   case f0 => simp only [];omega
   case f1 => simp only [];omega
   case l0 => simp only [];omega
   case l1 => exact Int.le_of_eq hz.symm
   case q => simp only [];omega
   case z => intro e;simp only [] at e ⊢;omega
   case i1 => intro x;exfalso;first | (simp only [] at x;done) | (simp only [] at x;omega)
   case i2 => intro x;exfalso;first | (simp only [] at x;done) | (simp only [] at x;omega)
   case i3 => intro x;exfalso;first | (simp only [] at x;done) | (simp only [] at x;omega)
   case i5 => intro x;exfalso;first | (simp only [] at x;done) | (simp only [] at x;omega)
   case d0 => intro x;exfalso;first | (simp only [] at x;done) | (simp only [] at x;omega)
   case d8 => intro x;exfalso;first | (simp only [] at x;done) | (simp only [] at x;omega)
   case a0 => intro x;exfalso;first | (simp only [] at x;done) | (simp only [] at x;omega)
   case a10 => intro x;exfalso;first | (simp only [] at x;done) | (simp only [] at x;omega)
   case x0 => intro x;exfalso;first | (simp only [] at x;done) | (simp only [] at x;omega)
   case x9 => intro x;exfalso;first | (simp only [] at x;done) | (simp only [] at x;omega)
 ·rw [if_neg hl]
  have hs : sizeF { t with left:=t.left - 1 } = sizeF t:=rfl
  have n1 : t.field ≠ 1:=fun e => by have:=siz1 e;omega
  have n11 : t.field ≠ 11:=fun e => by have:=siz11 e;omega
  have q1:=h.q1
  have q2:=h.q2
  exact ⟨h.f0,h.f1,by simp only [];omega,by rw [hs];simp only [];omega,h.r0,h.r1,h.v0,h.v1,by simp only [];omega,fun e => by simp only [] at e ⊢;omega,h.c0,h.c1,h.ig,h.i1,h.i2,h.i3,h.i5,h.dg,h.d0,h.d8,h.ag,h.a0,h.a10,h.x0,h.x9,h.xl,h.by_⟩
structure OneS (s t : SS) (b : Int) : Prop where
 run : 0 ≤ t.run ∧ t.run ≤ 5
 low : s.field ≤ 10 → 1 ≤ t.run ∧ t.level = b
 high : 10 < s.field → t.run = 0 ∧ t.level = 0
 crc : 0 ≤ t.crc ∧ t.crc ≤ 32767
 same : t = { s with run:=t.run,level:=t.level,crc:=t.crc }
theorem oneS_of {s : SS} (h : SInv s) (h5 : s.run ≠ 5) {b : Int} (hb : b = 0 ∨ b = 1) : OneS s (crcT (runS s b) b) b:=by
 have r0:=h.r0
 have r1:=h.r1
 have hrun : OneS s (runS s b) b:=by
  unfold runS
  by_cases c : s.field > 10
  ·rw [if_pos c];exact ⟨by simp,fun x => by omega,fun _ => ⟨rfl,rfl⟩,⟨h.c0,h.c1⟩,rfl⟩
  ·rw [if_neg c]
   by_cases c2 : 0 < s.run ∧ s.level = b
   ·rw [if_pos c2];exact ⟨by simp only [];omega,fun _ => ⟨by simp only [];omega,c2.2⟩,fun x => absurd x c,⟨h.c0,h.c1⟩,rfl⟩
   ·rw [if_neg c2];exact ⟨by simp,fun _ => ⟨by simp,rfl⟩,fun x => absurd x c,⟨h.c0,h.c1⟩,rfl⟩
 unfold crcT
 by_cases c : (runS s b).field ≤ 9
 ·rw [if_pos c]
  refine ⟨hrun.run,hrun.low,hrun.high,crcI_range hrun.crc.1 hrun.crc.2 hb, ?_⟩
  show ({ runS s b with crc:=_ } : SS) = _
  rw [hrun.same]
 ·rw [if_neg c];exact hrun
theorem dataS_len (s : SS) (b : Int) : (dataS s b).length = if s.left % 8 = 0 then s.data.length + 1 else s.data.length:=by
 unfold dataS
 simp only []
 rw [List.length_set]
 split
 ·rw [List.length_append,List.length_singleton]
 ·rfl
theorem dataS_bytes {s : SS} (b : Int) (h : ∀ x ∈ s.data,0 ≤ x ∧ x < 256) : ∀ x ∈ dataS s b,0 ≤ x ∧ x < 256:=by
 intro x hx
 unfold dataS at hx
 simp only [] at hx
 have h2 : ∀ d : List Int,(∀ x ∈ d,0 ≤ x ∧ x < 256) → ∀ (j : Nat) (v : Int),x ∈ d.set j (v % 256) → 0 ≤ x ∧ x < 256:=by
  intro d hd j v hm
  rcases List.mem_or_eq_of_mem_set hm with hm | rfl
  ·exact hd x hm
  ·omega
 refine h2 _ ?_ _ _ hx
 split
 ·intro y hy
  rcases List.mem_append.1 hy with hy | hy
  ·exact h y hy
  ·rw [List.mem_singleton] at hy;omega
 ·exact h
theorem SInv.take {s : SS} (h : SInv s) {t : SS} {b : Int} (hb : b = 0 ∨ b = 1) (O : OneS s t b) (hlim : s.field = 14 → 2 ≤ s.left) : TInv (takeS t b):=by
 have hsz:=sizeF_le h.f0 h.f1 h.dg.1
 have hm : ∀ {u : SS},u.field = t.field → u.left = t.left → u.run = t.run → u.level = t.level → u.crc = t.crc → sizeF u = sizeF s → 0 ≤ u.id ∧ u.id < 536870912 → (u.field = 1 → u.id = 0) → (u.field = 2 → PB 11 (u.left - 1) u.id) → (u.field = 3 ∨ u.field = 4 → u.id < 2048) → (u.field = 5 → PB 29 (u.left - 1) u.id) → 0 ≤ u.dlc ∧ u.dlc ≤ 15 → (u.field < 8 → u.dlc = 0) → (u.field = 8 → PB 4 (u.left - 1) u.dlc) → 0 ≤ u.acc ∧ u.acc ≤ 32767 → (u.field < 10 → u.acc = 0) → (u.field = 10 → PB 15 (u.left - 1) u.acc) → (u.field < 9 → u.data = []) → (u.field = 9 → u.rtr = false ∧ 0 < u.dlc ∧ (u.data.length : Int) = (sizeF u - (u.left - 1) + 7) / 8) → u.data.length ≤ 8 → (∀ x ∈ u.data,0 ≤ x ∧ x < 256) → TInv u:=by
  intro u e1 e2 e3 e4 e5 e6 g1 g2 g3 g4 g5 g6 g7 g8 g9 g10 g11 g12 g13 g14 g15
  have tf : t.field = s.field:=by rw [O.same]
  have tl : t.left = s.left:=by rw [O.same]
  have hlow:=O.low
  have hhigh:=O.high
  have hv0:=h.v0
  have hv1:=h.v1
  have hr:=O.run
  have hc:=O.crc
  refine ⟨by have:=h.f0;omega,by have:=h.f1;omega,by have:=h.l0;omega,by have:=h.l1;omega,by omega,by omega, ?_, ?_,fun x => by have:=(hlow (by omega)).1;omega,fun x => by have:=hhigh (by omega);omega,fun x => by have:=hlim (by omega);omega,by omega,by omega,g1,g2,g3,g4,g5,g6,g7,g8,g9,g10,g11,g12,g13,g14,g15⟩
  ·rcases (show s.field ≤ 10 ∨ 10 < s.field by omega) with x | x
   ·have:=(hlow x).2;omega
   ·have:=(hhigh x).2;omega
  ·rcases (show s.field ≤ 10 ∨ 10 < s.field by omega) with x | x
   ·have:=(hlow x).2;omega
   ·have:=(hhigh x).2;omega
 have ef : t.field = s.field:=by rw [O.same]
 have el : t.left = s.left:=by rw [O.same]
 have ei : t.id = s.id:=by rw [O.same]
 have ed : t.dlc = s.dlc:=by rw [O.same]
 have ea : t.acc = s.acc:=by rw [O.same]
 have ex : t.data = s.data:=by rw [O.same]
 have er : t.rtr = s.rtr:=by rw [O.same]
 have ee : t.ext = s.ext:=by rw [O.same]
 have esz : ∀ {u : SS},u.field = s.field → u.ext = s.ext → u.dlc = s.dlc → sizeF u = sizeF s:=by
  intro u a b c
  unfold sizeF
  rw [a,b,c]
 have l0:=h.l0
 unfold takeS
 by_cases c2 : t.field = 2 ∨ t.field = 5
 ·rw [if_pos c2]
  refine hm rfl rfl rfl rfl rfl (esz ef ee ed) (by simp only [];omega) (fun x => by simp only [] at x;omega) (fun x => ?_) (fun x => by simp only [] at x;omega) (fun x => ?_) (by simp only [];rw [ed];exact h.dg) (fun _ => by simp only [];rw [ed];exact h.d0 (by omega)) (fun x => by simp only [] at x;omega) (by simp only [];rw [ea];exact h.ag) (fun _ => by simp only [];rw [ea];exact h.a0 (by omega)) (fun x => by simp only [] at x;omega) (fun _ => by simp only [];rw [ex];exact h.x0 (by omega)) (fun x => by simp only [] at x;omega) (by simp only [];rw [ex];exact h.xl) (by simp only [];rw [ex];exact h.by_)
  ·simp only [] at x ⊢
   have hp:=h.i2 (by omega)
   have h3:=(hp.step l0 hb).lt
   have h4:=hp.x0
   rw [show (2 : Int) ^ 11 = 2048 from rfl] at h3
   rw [ei,el,Int.emod_eq_of_lt (by omega) (by omega)]
   exact hp.step l0 hb
  ·simp only [] at x ⊢
   have hp:=h.i5 (by omega)
   rw [ei,el,hp.mod l0 hb (show (2 : Int) ^ 29 = 536870912 from rfl)]
   exact hp.step l0 hb
 rw [if_neg c2]
 have nid : s.field ≠ 2 ∧ s.field ≠ 5:=by omega
 by_cases c3 : t.field = 3 ∨ t.field = 6
 ·rw [if_pos c3]
  exact hm rfl rfl rfl rfl rfl (esz ef ee ed) (by simp only [];rw [ei];exact h.ig) (fun x => by simp only [] at x;omega) (fun x => by simp only [] at x;omega) (fun x => by simp only [];rw [ei];exact h.i3 (by simp only [] at x;omega)) (fun x => by simp only [] at x;omega) (by simp only [];rw [ed];exact h.dg) (fun _ => by simp only [];rw [ed];exact h.d0 (by omega)) (fun x => by simp only [] at x;omega) (by simp only [];rw [ea];exact h.ag) (fun _ => by simp only [];rw [ea];exact h.a0 (by omega)) (fun x => by simp only [] at x;omega) (fun _ => by simp only [];rw [ex];exact h.x0 (by omega)) (fun x => by simp only [] at x;omega) (by simp only [];rw [ex];exact h.xl) (by simp only [];rw [ex];exact h.by_)
 rw [if_neg c3]
 by_cases c4 : t.field = 4
 ·have hz : sizeF s = 1:=siz4 (by omega)
  rw [if_pos c4]
  split <;> exact hm rfl rfl rfl rfl rfl ((siz4 (by simp only [];omega)).trans hz.symm) (by simp only [];rw [ei];exact h.ig) (fun x => by simp only [] at x;omega) (fun x => by simp only [] at x;omega) (fun x => by simp only [];rw [ei];exact h.i3 (by omega)) (fun x => by simp only [] at x;omega) (by simp only [];rw [ed];exact h.dg) (fun _ => by simp only [];rw [ed];exact h.d0 (by omega)) (fun x => by simp only [] at x;omega) (by simp only [];rw [ea];exact h.ag) (fun _ => by simp only [];rw [ea];exact h.a0 (by omega)) (fun x => by simp only [] at x;omega) (fun _ => by simp only [];rw [ex];exact h.x0 (by omega)) (fun x => by simp only [] at x;omega) (by simp only [];rw [ex];exact h.xl) (by simp only [];rw [ex];exact h.by_)
 rw [if_neg c4]
 have nid3 : ∀ {x : Int},x = t.field → x ≠ 2 ∧ x ≠ 3 ∧ x ≠ 4 ∧ x ≠ 5:=by intro x hx;omega
 by_cases c8 : t.field = 8
 ·have hp:=h.d8 (by omega)
  have hmod:=hp.mod l0 hb (show (2 : Int) ^ 4 = 16 from rfl)
  have hst:=hp.step l0 hb
  have hlt:=hst.lt
  have hx0:=hst.x0
  rw [show (2 : Int) ^ 4 = 16 from rfl] at hlt
  have hz : sizeF s = 4:=siz8 (by omega)
  rw [if_pos c8]
  exact hm rfl rfl rfl rfl rfl ((siz8 (by simp only [];omega)).trans hz.symm) (by simp only [];rw [ei];exact h.ig) (fun x => by simp only [] at x;omega) (fun x => by simp only [] at x;omega) (fun x => by simp only [] at x;omega) (fun x => by simp only [] at x;omega) (by simp only [];omega) (fun x => by simp only [] at x;omega) (fun x => by simp only [];rw [ed,el,hmod];exact hst) (by simp only [];rw [ea];exact h.ag) (fun _ => by simp only [];rw [ea];exact h.a0 (by omega)) (fun x => by simp only [] at x;omega) (fun _ => by simp only [];rw [ex];exact h.x0 (by omega)) (fun x => by simp only [] at x;omega) (by simp only [];rw [ex];exact h.xl) (by simp only [];rw [ex];exact h.by_)
 rw [if_neg c8]
 by_cases c9 : t.field = 9
 ·have hx:=h.x9 (by omega)
  have hz : sizeF s = 8 * (if s.dlc < 8 then s.dlc else 8):=siz9 (by omega)
  have hlen:=dataS_len t b
  have hl1:=h.l1
  have n8 : (if s.dlc < 8 then s.dlc else 8) ≤ 8:=by split <;> omega
  generalize (if s.dlc < 8 then s.dlc else 8) = n at hz n8
  have hl2 : ((dataS t b).length : Int) = (sizeF s - (s.left - 1) + 7) / 8:=by
   rw [hlen,ex,el,hz]
   rw [hz] at hx
   split <;> (push_cast;omega)
  rw [if_pos c9]
  exact hm rfl rfl rfl rfl rfl (esz ef ee ed) (by simp only [];rw [ei];exact h.ig) (fun x => by simp only [] at x;omega) (fun x => by simp only [] at x;omega) (fun x => by simp only [] at x;omega) (fun x => by simp only [] at x;omega) (by simp only [];rw [ed];exact h.dg) (fun x => by simp only [] at x;omega) (fun x => by simp only [] at x;omega) (by simp only [];rw [ea];exact h.ag) (fun _ => by simp only [];rw [ea];exact h.a0 (by omega)) (fun x => by simp only [] at x;omega) (fun x => by simp only [] at x;omega) (fun _ => ⟨by simp only [];rw [er];exact hx.1,by simp only [];rw [ed];exact hx.2.1,by rw [esz (by simp only [];exact ef) (by simp only [];exact ee) (by simp only [];exact ed)];simp only [];rw [el];exact hl2⟩) (by simp only [];omega) (by simp only [];exact dataS_bytes b (by rw [ex];exact h.by_))
 rw [if_neg c9]
 by_cases c10 : t.field = 10
 ·have hp:=h.a10 (by omega)
  have hmod:=hp.mod l0 hb (show (2 : Int) ^ 15 = 32768 from rfl)
  have hst:=hp.step l0 hb
  have hlt:=hst.lt
  have hx0:=hst.x0
  rw [show (2 : Int) ^ 15 = 32768 from rfl] at hlt
  rw [if_pos c10]
  exact hm rfl rfl rfl rfl rfl (esz ef ee ed) (by simp only [];rw [ei];exact h.ig) (fun x => by simp only [] at x;omega) (fun x => by simp only [] at x;omega) (fun x => by simp only [] at x;omega) (fun x => by simp only [] at x;omega) (by simp only [];rw [ed];exact h.dg) (fun x => by simp only [] at x;omega) (fun x => by simp only [] at x;omega) (by simp only [];omega) (fun x => by simp only [] at x;omega) (fun x => by simp only [];rw [ea,el,hmod];exact hst) (fun x => by simp only [] at x;omega) (fun x => by simp only [] at x;omega) (by simp only [];rw [ex];exact h.xl) (by simp only [];rw [ex];exact h.by_)
 rw [if_neg c10]
 refine hm rfl rfl rfl rfl rfl (esz ef ee ed) (by rw [ei];exact h.ig) (fun x => by rw [ei];exact h.i1 (by omega)) (fun x => by omega) (fun x => by omega) (fun x => by omega) (by rw [ed];exact h.dg) (fun _ => by rw [ed];exact h.d0 (by omega)) (fun x => by omega) (by rw [ea];exact h.ag) (fun _ => by rw [ea];exact h.a0 (by omega)) (fun x => by omega) (fun _ => by rw [ex];exact h.x0 (by omega)) (fun x => by omega) (by rw [ex];exact h.xl) (by rw [ex];exact h.by_)
theorem SInv.skip {s : SS} (h : SInv s) (h5 : s.run = 5) {b : Int} (hb : b = 0 ∨ b = 1) : SInv { s with run:=1,level:=b }:=by
 have hq:=h.q
 exact ⟨h.f0,h.f1,h.l0,h.l1,by simp,by simp,by simp only [];omega,by simp only [];omega,by simp only [];omega,fun x => by simp only [] at x;omega,h.c0,h.c1,h.ig,h.i1,h.i2,h.i3,h.i5,h.dg,h.d0,h.d8,h.ag,h.a0,h.a10,h.x0,h.x9,h.xl,h.by_⟩
theorem verdict_lim {s : SS} {b : Int} (h : verdictV s b = 0 ∨ verdictV s b = 1) (l0 : 1 ≤ s.left) : s.field = 14 → 2 ≤ s.left:=by
 intro h14
 rcases (show s.left = 1 ∨ 2 ≤ s.left by omega) with h1 | h1
 ·exfalso
  unfold verdictV at h
  rw [if_neg (by omega),if_neg (by omega),if_neg (by omega),if_neg (by omega)] at h
  by_cases b0 : b = 0
  ·rw [if_pos b0] at h;omega
  ·rw [if_neg b0,if_neg (by omega),if_pos h1] at h;omega
 ·exact h1
end Go.Proofs.YtdoclpgciadjaaaDoor.P
namespace Go.Proofs.YtdoclpgciadjaaaDoor.P
open Go.RowKit Go.Proofs.YtdoclpgciadjaaaDoorW.PrintWords Go.Proofs.YtdoclpgciadjaaaDoorW.PrintLast Go.Proofs.YtdoclpgciadjaaaDoorW.PrintMore
set_option linter.unusedVariables false
set_option linter.unusedSimpArgs false
def dataB (rtr : Bool) (dlc : Int) : Int:=if rtr = true then 0 else (if 8 < dlc then 8 else dlc)
theorem impl_dataBytes.same (a0 : Bool) (a1 : Int) (w : World) :
  Calls Tryd.prog 75 #[.bool a0, .int .i64 a1] w fun e w' => e = .returned (.int .i64 (dataB a0 a1)) ∧ w' = w:=by
 unfold dataB
 cases a0
 ·by_cases c : 8 < a1
  ·have c1 : decide (8 < a1) = true:=decide_eq_true c
   go_enter Tryd.func75,Tryd.ntmps75
   go_wp2
   go_ret
   exact ⟨rfl,rfl⟩
  ·have c1 : decide (8 < a1) = false:=decide_eq_false c
   go_enter Tryd.func75,Tryd.ntmps75
   go_wp2
   go_ret
   exact ⟨rfl,rfl⟩
 ·go_enter Tryd.func75,Tryd.ntmps75
  go_wp2
  go_ret
  exact ⟨rfl,rfl⟩
end Go.Proofs.YtdoclpgciadjaaaDoor.P
namespace Go.Proofs.YtdoclpgciadjaaaDoor.P
open Go Go.RowKit Go.Proofs.YtdoclpgciadjaaaDoorW.PrintWords
set_option linter.unusedVariables false
structure WS where
 code : Int
 field : Int
 left : Int
 run : Int
 level : Int
 sum : Int
 got : Int
 ext : Bool
 id : Int
 rtr : Bool
 dlc : Int
 data : List Int
def cellsW (s : WS) (v : Value) : Array Value := #[.int .i64 s.code, .int .i64 s.field, .int .i64 s.left, .int .i64 s.run, .int .i32 s.level, .int .i64 s.sum, .int .i64 s.got, .bool s.ext, .int .u32 s.id, .bool s.rtr, .int .i64 s.dlc,v]
def objW (s : WS) (v : Value) : Obj := .cells (cellsW s v) 64 (0,0)
section
variable {w : World} {p : Nat} {s : WS} {v : Value} (h : w.heap[p]? = some (objW s v))
include h
theorem cW0 : w.cell? ⟨p,0,none⟩ = some (.int .i64 s.code):=blk_cell h 0
theorem cW1 : w.cell? ⟨p,1,none⟩ = some (.int .i64 s.field):=blk_cell h 1
theorem cW2 : w.cell? ⟨p,2,none⟩ = some (.int .i64 s.left):=blk_cell h 2
theorem cW3 : w.cell? ⟨p,3,none⟩ = some (.int .i64 s.run):=blk_cell h 3
theorem cW4 : w.cell? ⟨p,4,none⟩ = some (.int .i32 s.level):=blk_cell h 4
theorem cW5 : w.cell? ⟨p,5,none⟩ = some (.int .i64 s.sum):=blk_cell h 5
theorem cW6 : w.cell? ⟨p,6,none⟩ = some (.int .i64 s.got):=blk_cell h 6
theorem cW7 : w.cell? ⟨p,7,none⟩ = some (.bool s.ext):=blk_cell h 7
theorem cW8 : w.cell? ⟨p,8,none⟩ = some (.int .u32 s.id):=blk_cell h 8
theorem cW9 : w.cell? ⟨p,9,none⟩ = some (.bool s.rtr):=blk_cell h 9
theorem cW10 : w.cell? ⟨p,10,none⟩ = some (.int .i64 s.dlc):=blk_cell h 10
theorem cW11 : w.cell? ⟨p,11,none⟩ = some v:=blk_cell h 11
theorem fW (j : Nat) : w.frozen? ⟨p,j,none⟩ = false:=blk_frozen h j
theorem setW0 (x : Int) : (w.setCell ⟨p,0,none⟩ (.int .i64 x)).heap[p]? = some (objW { s with code:=x } v):=by simp only [World.setCell,Array.getElem?_modify,h];rfl
theorem setW1 (x : Int) : (w.setCell ⟨p,1,none⟩ (.int .i64 x)).heap[p]? = some (objW { s with field:=x } v):=by simp only [World.setCell,Array.getElem?_modify,h];rfl
theorem setW2 (x : Int) : (w.setCell ⟨p,2,none⟩ (.int .i64 x)).heap[p]? = some (objW { s with left:=x } v):=by simp only [World.setCell,Array.getElem?_modify,h];rfl
theorem setW3 (x : Int) : (w.setCell ⟨p,3,none⟩ (.int .i64 x)).heap[p]? = some (objW { s with run:=x } v):=by simp only [World.setCell,Array.getElem?_modify,h];rfl
theorem setW4 (x : Int) : (w.setCell ⟨p,4,none⟩ (.int .i32 x)).heap[p]? = some (objW { s with level:=x } v):=by simp only [World.setCell,Array.getElem?_modify,h];rfl
theorem setW5 (x : Int) : (w.setCell ⟨p,5,none⟩ (.int .i64 x)).heap[p]? = some (objW { s with sum:=x } v):=by simp only [World.setCell,Array.getElem?_modify,h];rfl
theorem setW6 (x : Int) : (w.setCell ⟨p,6,none⟩ (.int .i64 x)).heap[p]? = some (objW { s with got:=x } v):=by simp only [World.setCell,Array.getElem?_modify,h];rfl
theorem setW7 (x : Bool) : (w.setCell ⟨p,7,none⟩ (.bool x)).heap[p]? = some (objW { s with ext:=x } v):=by simp only [World.setCell,Array.getElem?_modify,h];rfl
theorem setW8 (x : Int) : (w.setCell ⟨p,8,none⟩ (.int .u32 x)).heap[p]? = some (objW { s with id:=x } v):=by simp only [World.setCell,Array.getElem?_modify,h];rfl
theorem setW9 (x : Bool) : (w.setCell ⟨p,9,none⟩ (.bool x)).heap[p]? = some (objW { s with rtr:=x } v):=by simp only [World.setCell,Array.getElem?_modify,h];rfl
theorem setW10 (x : Int) : (w.setCell ⟨p,10,none⟩ (.int .i64 x)).heap[p]? = some (objW { s with dlc:=x } v):=by simp only [World.setCell,Array.getElem?_modify,h];rfl
theorem setW11 (x : Value) : (w.setCell ⟨p,11,none⟩ x).heap[p]? = some (objW s x):=by simp only [World.setCell,Array.getElem?_modify,h];rfl
end
def put12 (w : World) (q : Nat) (s : WS) (v : Value) : World :=
 (((((((((((w.setCell ⟨q,0,none⟩ (.int .i64 s.code)).setCell ⟨q,1,none⟩ (.int .i64 s.field)).setCell ⟨q,2,none⟩ (.int .i64 s.left)).setCell ⟨q,3,none⟩ (.int .i64 s.run)).setCell ⟨q,4,none⟩ (.int .i32 s.level)).setCell ⟨q,5,none⟩ (.int .i64 s.sum)).setCell ⟨q,6,none⟩ (.int .i64 s.got)).setCell ⟨q,7,none⟩ (.bool s.ext)).setCell ⟨q,8,none⟩ (.int .u32 s.id)).setCell ⟨q,9,none⟩ (.bool s.rtr)).setCell ⟨q,10,none⟩ (.int .i64 s.dlc)).setCell ⟨q,11,none⟩ v
theorem put12_obj {w : World} {q : Nat} {s0 : WS} {v0 : Value} (h : w.heap[q]? = some (objW s0 v0)) (s : WS) (v : Value) : (put12 w q s v).heap[q]? = some (objW s v) :=
 setW11 (setW10 (setW9 (setW8 (setW7 (setW6 (setW5 (setW4 (setW3 (setW2 (setW1 (setW0 h s.code) s.field) s.left) s.run) s.level) s.sum) s.got) s.ext) s.id) s.rtr) s.dlc) v
theorem put12_tch (w : World) (q : Nat) (s : WS) (v : Value) : Tch w (put12 w q s v) (fun k => k = q) :=
 (((((((((((((Tch.refl1 w q).one 0 _).one 1 _).one 2 _).one 3 _).one 4 _).one 5 _).one 6 _).one 7 _).one 8 _).one 9 _).one 10 _).one 11 _)
structure EndW (w : World) (p : Nat) (s : WS) (v : Value) (e : Ending) (w' : World) : Prop where
 ret : e = .returned (.tuple #[])
 obj : w'.heap[p]? = some (objW s v)
 tch : Tch w w' (fun k => k = p)
structure RetW (w : World) (p : Nat) (s : WS) (v : Value) (x : Value) (e : Ending) (w' : World) : Prop where
 ret : e = .returned x
 obj : w'.heap[p]? = some (objW s v)
 tch : Tch w w' (fun k => k = p)
def enterL (s : WS) (f : Int) : Int:=if f = 2 then 11 else if f = 5 then 18 else if f = 7 then (if s.ext = true then 2 else 1) else if f = 8 then 4 else if f = 9 then 8 * dataB s.rtr s.dlc else if f = 10 then 15 else if f = 14 then 7 else 1
def enterW (s : WS) (f : Int) : WS:=if f = 9 ∧ dataB s.rtr s.dlc = 0 then { s with field:=10,left:=15 } else { s with field:=f,left:=enterL s f }
def nextW (s : WS) : WS:=if s.left - 1 > 0 then { s with left:=s.left - 1 } else if s.field = 4 ∧ s.ext = false then enterW { s with left:=s.left - 1 } 7 else enterW { s with left:=s.left - 1 } (s.field + 1)
def dueW (s : WS) : Bool:=s.run == 5 && decide (s.field ≤ 11)
def crcOkW (s : WS) : Bool:=decide (10 < s.field) && s.sum == s.got
def endW (s : WS) (b : Int) : WS:=if 1 < s.left ∧ b = 0 then { s with code:=4 } else if s.left = 2 then { s with code:=1 } else if s.left = 1 ∧ b = 0 then { s with code:=6 } else if s.left = 1 then { s with code:=2 } else s
structure WOk (s : WS) : Prop where
 f0 : 1 ≤ s.field
 f1 : s.field ≤ 14
 l0 : 1 ≤ s.left
 l1 : s.left ≤ 64
 r0 : 0 ≤ s.run
 r1 : s.run ≤ 5
 d0 : 0 ≤ s.dlc
 d1 : s.dlc ≤ 15
 g0 : 0 ≤ s.got
 g1 : s.got < 32768
 i0 : 0 ≤ s.id
 i1 : s.id < 4294967296
 ne : s.field = 9 → s.left % 8 ≠ 0 → s.data ≠ []
 by_ : ∀ x ∈ s.data,0 ≤ x ∧ x < 256
 dl : s.data.length ≤ 100
def dataW (s : WS) (b : Int) : List Int:=let d:=if s.left % 8 = 0 then s.data ++ [0] else s.data;d.set (d.length - 1) ((2 * rd d ((d.length : Int) - 1) + b) % 256)
def takeW (s : WS) (b : Int) : WS :=
 if s.field = 1 then (if b = 1 then { s with code:=4 } else s)
 else if s.field = 2 ∨ s.field = 5 then { s with id:=(2 * s.id + b) % 4294967296 }
 else if s.field = 3 ∨ s.field = 6 then { s with rtr:=b == 1 }
 else if s.field = 4 then { s with ext:=b == 1 }
 else if s.field = 8 then { s with dlc:=2 * s.dlc + b }
 else if s.field = 9 then { s with data:=dataW s b }
 else if s.field = 10 then { s with got:=2 * s.got + b }
 else if s.field = 11 then (if b = 0 then { s with code:=4 } else s)
 else if s.field = 13 then (if b = 0 then { s with code:=4 } else if crcOkW s = true then s else { s with code:=5 })
 else if s.field = 14 then endW s b else s
def sumW (s : WS) (b : Int) : WS:=if s.field ≤ 9 then { s with sum:=crcI s.sum b } else s
def plainW (s : WS) (b : Int) : WS:=nextW (takeW (sumW s b) b)
def hearW (s0 : WS) (c : Int) : WS :=
 let s := { s0 with code:=0 }
 if dueW s = true then (if c = s.level then { s with code:=3,run:=1,level:=c } else { s with run:=1,level:=c })
 else if s.field ≤ 10 then (if 0 < s.run ∧ s.level = c then plainW { s with run:=s.run + 1 } (c - 48) else plainW { s with run:=1,level:=c } (c - 48))
 else plainW { s with run:=0 } (c - 48)
structure WAt (w0 w : World) (p : Nat) (S : Nat → Prop) (s : WS) (v : Value) : Prop where
 obj : w.heap[p]? = some (objW s v)
 row : Kd.R (Kd.int .u8) 5 w w0.heap.size S v s.data
theorem infoU8w : (Tryd.prog.info? 5).map (fun i => (i.zero,i.size,i.bytes)) = some (some (.int .u8 0),1,1):=by kernel_rfl
structure EndP (w0 w : World) (p : Nat) (S : Nat → Prop) (s : WS) (e : Ending) (w' : World) : Prop where
 ret : e = .returned (.tuple #[])
 at_ : ∃ v,WAt w0 w' p S s v
 tch : Tch w w' (fun k => k = p ∨ S k)
theorem EndW.toP {w0 w w' : World} {p : Nat} {S : Nat → Prop} {s : WS} {v : Value} {e : Ending} (h : EndW w p s v e w') (hr : Kd.R (Kd.int .u8) 5 w w0.heap.size S v s.data) (hS : ¬ S p) : EndP w0 w p S s e w' :=
 ⟨h.ret,⟨v,h.obj,h.tch.R hr (fun k hk e => hS (e ▸ hk))⟩,h.tch.mono fun k hk => .inl hk⟩
structure W9At (w0 w w1 : World) (p : Nat) (S : Nat → Prop) (s : WS) (d : List Int) (m g c1 : Nat) (v1 : Value) : Prop where
 obj : w1.heap[p]? = some (objW s v1)
 row : Kd.R (Kd.int .u8) 5 w1 w0.heap.size S (.slice (some ⟨g,0,none⟩) (m + 1) c1) d
 len : d.length = m + 1
 tch : Tch w w1 (fun k => k = p ∨ S k)
 own : S g
theorem W9At.facts {w0 w w1 : World} {p : Nat} {S : Nat → Prop} {s : WS} {d : List Int} {m g c1 : Nat} {v1 : Value} (h : W9At w0 w w1 p S s d m g c1 v1) (hS : ¬ S p) (hm : m < 1000) :
  g ≠ p ∧ p ≠ g ∧ ((0 ≤ (m : Int)) = True) ∧ (((m : Int) < ((m + 1 : Nat) : Int)) = True) ∧ w1.cell? ⟨g,m,none⟩ = some (.int .u8 (rd d (m : Int))) ∧ w1.frozen? ⟨g,m,none⟩ = false ∧ w1.cell? ⟨p,11,none⟩ = some v1 ∧ w1.frozen? ⟨p,11,none⟩ = false:=by
 have hgp : g ≠ p:=fun e => hS (e ▸ h.own)
 obtain ⟨hx,hf⟩:=Kd.R_celln 0 h.row (m : Int) (by omega) (by omega)
 rw [Int.toNat_natCast] at hx hf
 exact ⟨hgp,fun e => hgp e.symm,eq_true (by omega),eq_true (by omega),hx,hf,cW11 h.obj,fW h.obj 11⟩
theorem w9_append {w0 w w1 : World} {S : Nat → Prop} {p : Nat} {s : WS} {d : List Int} {v v1 : Value} (hp : w.heap[p]? = some (objW s v)) (hv : Kd.R (Kd.int .u8) 5 w w0.heap.size S v d) (hS : ¬ S p)
  (ho : Kd.R (Kd.int .u8) 5 w1 w0.heap.size S v1 (d ++ [0])) (hg : w.grownBy w1 v.ownBlock) : ∃ (g c1 : Nat),v1 = .slice (some ⟨g,0,none⟩) (d.length + 1) c1 ∧ W9At w0 w w1 p S s (d ++ [0]) d.length g c1 v:=by
 obtain ⟨g,c1,e1, -, -, -, -⟩:=Kd.R_form ho (by simp)
 subst e1
 have hl : (d ++ [0]).length = d.length + 1:=by simp
 rw [hl] at ho ⊢
 exact ⟨g,c1,rfl,blk_grown hp hg (fun e => hS (hv.1 p e.symm)),ho,hl,(Tch.refl _ _).grown hg (fun k hk => .inl (.inr (hv.1 k hk))),ho.1 g rfl⟩
theorem w9_same {w0 w : World} {S : Nat → Prop} {p : Nat} {s : WS} {d : List Int} {v : Value} (hp : w.heap[p]? = some (objW s v)) (hv : Kd.R (Kd.int .u8) 5 w w0.heap.size S v d) {m : Nat} (hm : d.length = m + 1) : ∃ (g c1 : Nat),v = .slice (some ⟨g,0,none⟩) (m + 1) c1 ∧ W9At w0 w w p S s d m g c1 v:=by
 obtain ⟨g,c1,e1, -, -, -, -⟩:=Kd.R_form hv (by omega)
 subst e1
 rw [hm] at hv ⊢
 exact ⟨g,c1,rfl,by rw [← hm];rw [hm] at hp ⊢;exact hp,hv,hm,Tch.refl _ _,hv.1 g rfl⟩
theorem w9_mid {w0 w w1 : World} {p : Nat} {S : Nat → Prop} {s : WS} {d : List Int} {m g c1 : Nat} {v1 V : Value} (h : W9At w0 w w1 p S s d m g c1 v1) (hS : ¬ S p) : W9At w0 w (w1.setCell ⟨p,11,none⟩ V) p S s d m g c1 V :=
 ⟨setW11 h.obj V,Kd.R_step h.row (fun k hk _ => Below.heap_setCell _ _ _ k (fun e => hS ((show k = p from e) ▸ hk))),h.len,h.tch.setCell (.inl (.inl rfl)) _,h.own⟩
theorem w9_draw {w0 w w1 : World} {p : Nat} {S : Nat → Prop} {s : WS} {d : List Int} {m g c1 : Nat} {v1 : Value} (h : W9At w0 w w1 p S s d m g c1 v1) (n : Nat) : W9At w0 w (w1.drewN n) p S s d m g c1 v1 :=
 ⟨h.obj,Kd.R_step h.row (fun _ _ _ => rfl),h.len,h.tch.drewN n,h.own⟩
theorem w9_put {w0 w w1 : World} {p : Nat} {S : Nat → Prop} {s : WS} {d : List Int} {m g c1 : Nat} (h : W9At w0 w w1 p S s d m g c1 (.slice (some ⟨g,0,none⟩) (m + 1) c1)) (hS : ¬ S p) (x : Int) : W9At w0 w (w1.setCell ⟨g,m,none⟩ (.int .u8 x)) p S s (d.set m x) m g c1 (.slice (some ⟨g,0,none⟩) (m + 1) c1):=by
 obtain ⟨h1,h2⟩:=Kd.R_putg h.row (m : Int) x
 rw [Int.toNat_natCast] at h1 h2
 exact ⟨blk_grown h.obj h2 (fun e => hS (by injection e with e;exact e ▸ h.own)),h1,by rw [List.length_set];exact h.len,h.tch.setCell (.inl (.inr h.own)) _,h.own⟩
def enterP (s : WS) (f : Int) : Int × Int:=if f = 9 ∧ dataB s.rtr s.dlc = 0 then (10,15) else (f,enterL s f)
def nextP (s : WS) : Int × Int:=if s.left - 1 > 0 then (s.field,s.left - 1) else if s.field = 4 ∧ s.ext = false then enterP s 7 else enterP s (s.field + 1)
theorem enterW_eq (s : WS) (f : Int) : enterW s f = { s with field:=(enterP s f).1,left:=(enterP s f).2 }:=by
 unfold enterW enterP
 by_cases c : f = 9 ∧ dataB s.rtr s.dlc = 0
 ·rw [if_pos c,if_pos c]
 ·rw [if_neg c,if_neg c]
theorem nextW_eq (s : WS) : nextW s = { s with field:=(nextP s).1,left:=(nextP s).2 }:=by
 unfold nextW nextP
 by_cases c : s.left - 1 > 0
 ·rw [if_pos c,if_pos c]
 ·rw [if_neg c,if_neg c]
  by_cases c2 : s.field = 4 ∧ s.ext = false
  ·rw [if_pos c2,if_pos c2,enterW_eq];rfl
  ·rw [if_neg c2,if_neg c2,enterW_eq];rfl
def withData (s : WS) (d : List Int) : WS := { s with data:=d }
theorem nextW_data (s : WS) (d : List Int) : nextW (withData s d) = withData (nextW s) d:=by
 rw [nextW_eq,nextW_eq];rfl
structure WIn (w0 w : World) (p : Nat) (S : Nat → Prop) (s : WS) (v : Value) : Prop where
 obj : w.heap[p]? = some (objW s v)
 row : Kd.R (Kd.int .u8) 5 w w0.heap.size S v s.data
 below : Below w0.heap.size w0 w
 fresh : ∀ k,w.heap.size ≤ k → S k
theorem WIn.put {w0 w : World} {p : Nat} {S : Nat → Prop} {s : WS} {v : Value} (h : WIn w0 w p S s v) (hS : ¬ S p) (hpl : w0.heap.size ≤ p) {j : Nat} {u : Value} {s' : WS} (ho : (w.setCell ⟨p,j,none⟩ u).heap[p]? = some (objW s' v)) (hd : s'.data = s.data) : WIn w0 (w.setCell ⟨p,j,none⟩ u) p S s' v :=
 ⟨ho,by rw [hd];exact Kd.R_step h.row (fun k hk _ => Below.heap_setCell _ _ _ k (fun e => hS ((show k = p from e) ▸ hk))),h.below.setCell hpl _,fun k hk => h.fresh k (by simpa [World.setCell] using hk)⟩
theorem plainW_data (s : WS) (b : Int) (h : s.field ≠ 9) : (plainW s b).data = s.data:=by
 have e1 : (sumW s b).data = s.data ∧ (sumW s b).field = s.field:=by unfold sumW;split <;> exact ⟨rfl,rfl⟩
 have e2 : (takeW (sumW s b) b).data = (sumW s b).data:=by
  generalize sumW s b = t at e1 ⊢
  have hne : ¬ t.field = 9:=by rw [e1.2];exact h
  have e3 : (endW t b).data = t.data:=by unfold endW;(repeat' split) <;> rfl
  unfold takeW
  rw [if_neg hne]
  (repeat' split) <;> first | rfl | exact e3
 unfold plainW
 rw [nextW_eq]
 exact e2.trans e1.1
theorem run_le4 {s : WS} (hd : dueW s = false) (hf : s.field ≤ 10) (r1 : s.run ≤ 5) : s.run ≤ 4:=by
 by_cases h5 : s.run = 5
 ·unfold dueW at hd
  rw [h5,decide_eq_true (show s.field ≤ 11 by omega)] at hd
  exact absurd hd (by decide)
 ·omega
theorem nat_or_bit (m b : Nat) (hb : b ≤ 1) : (m * 2) ||| b = 2 * m + b:=by
 have:=Nat.two_pow_add_eq_or_of_lt (i:=1) (b:=b) (by omega) m
 rw [Nat.pow_one] at this
 rw [Nat.mul_comm m 2, ← this]
theorem or_i64 (x b : Int) (h0 : 0 ≤ x) (h1 : x < 1000000000) (hb : b = 0 ∨ b = 1) : Go.bits .or .i64 (wrap64 (x * 2)) b = 2 * x + b:=by
 obtain ⟨n,rfl⟩ : ∃ n : Nat,x = (n : Int):=⟨x.toNat,by omega⟩
 obtain ⟨m,rfl,hm⟩ : ∃ m : Nat,b = (m : Int) ∧ m ≤ 1:=⟨b.toNat,by omega,by omega⟩
 have e : wrap64 ((n : Int) * 2) = ((n * 2 : Nat) : Int):=by unfold wrap64;omega
 have hp : (2 : Nat) ^ 62 ≤ 2 ^ IntKind.i64.bits:=Nat.pow_le_pow_right (by decide) (by decide)
 have ha' : (n * 2) % 2 ^ IntKind.i64.bits = n * 2:=Nat.mod_eq_of_lt (Nat.lt_of_lt_of_le (by omega) hp)
 have hb' : m % 2 ^ IntKind.i64.bits = m:=Nat.mod_eq_of_lt (Nat.lt_of_lt_of_le (by omega) hp)
 rw [e]
 simp only [Go.bits,BitVec.ofInt_natCast,BitVec.toNat_or,BitVec.toNat_ofNat,ha',hb']
 rw [nat_or_bit n m hm,IntKind.wrap_i64]
 omega
theorem or_u32 (x b : Int) (h0 : 0 ≤ x) (hb : b = 0 ∨ b = 1) : Go.bits .or .u32 ((x * 2) % 4294967296) b = (2 * x + b) % 4294967296:=by
 obtain ⟨n,rfl⟩ : ∃ n : Nat,x = (n : Int):=⟨x.toNat,by omega⟩
 obtain ⟨m,rfl,hm⟩ : ∃ m : Nat,b = (m : Int) ∧ m ≤ 1:=⟨b.toNat,by omega,by omega⟩
 have e : ((n : Int) * 2) % 4294967296 = (((n % 2147483648) * 2 : Nat) : Int):=by omega
 have ha' : ((n % 2147483648) * 2) % 2 ^ IntKind.u32.bits = (n % 2147483648) * 2:=Nat.mod_eq_of_lt (show (n % 2147483648) * 2 < 4294967296 by omega)
 have hb' : m % 2 ^ IntKind.u32.bits = m:=Nat.mod_eq_of_lt (show m < 4294967296 by omega)
 rw [e]
 simp only [Go.bits,BitVec.ofInt_natCast,BitVec.toNat_or,BitVec.toNat_ofNat,ha',hb']
 rw [nat_or_bit _ m hm,IntKind.wrap_u32]
 omega
theorem or_u8 (x b : Int) (h0 : 0 ≤ x) (hb : b = 0 ∨ b = 1) : Go.bits .or .u8 ((x * 2) % 256) b = (2 * x + b) % 256:=by
 obtain ⟨n,rfl⟩ : ∃ n : Nat,x = (n : Int):=⟨x.toNat,by omega⟩
 obtain ⟨m,rfl,hm⟩ : ∃ m : Nat,b = (m : Int) ∧ m ≤ 1:=⟨b.toNat,by omega,by omega⟩
 have e : ((n : Int) * 2) % 256 = (((n % 128) * 2 : Nat) : Int):=by omega
 have ha' : ((n % 128) * 2) % 2 ^ IntKind.u8.bits = (n % 128) * 2:=Nat.mod_eq_of_lt (show (n % 128) * 2 < 256 by omega)
 have hb' : m % 2 ^ IntKind.u8.bits = m:=Nat.mod_eq_of_lt (show m < 256 by omega)
 rw [e]
 simp only [Go.bits,BitVec.ofInt_natCast,BitVec.toNat_or,BitVec.toNat_ofNat,ha',hb']
 rw [nat_or_bit _ m hm,IntKind.wrap_u8]
 omega
theorem rd_range {l : List Int} (h : ∀ x ∈ l,0 ≤ x ∧ x < 256) (i : Int) : 0 ≤ rd l i:=by
 unfold rd
 rw [List.getD_eq_getElem?_getD]
 cases e : l[i.toNat]? with
 | none => exact Int.le_refl 0
 | some y => exact (h y (List.mem_of_getElem? e)).1
theorem takeW9 (t : WS) (b : Int) (h : t.field = 9) : takeW t b = withData t (dataW t b):=by
 unfold takeW
 rw [if_neg (by omega),if_neg (by omega),if_neg (by omega),if_neg (by omega),if_neg (by omega),if_pos h]
 rfl
theorem plain9_eq (s : WS) (b : Int) (hb : b = 0 ∨ b = 1) (hf : s.field = 9) (d : List Int) (m : Nat) (hd : d = if s.left % 8 = 0 then s.data ++ [0] else s.data) (hl : d.length = m + 1) (hr : 0 ≤ rd d (m : Int)) :
  plainW s b = withData (nextW { s with sum:=crcI s.sum b }) (d.set m (Go.bits .or .u8 (rd d (m : Int) * 2 % 256) b)):=by
 have e0 : sumW s b = { s with sum:=crcI s.sum b }:=by unfold sumW;rw [if_pos (by omega)]
 have : dataW { s with sum:=crcI s.sum b } b = d.set m ((2 * rd d (m : Int) + b) % 256):=by
  unfold dataW
  simp only []
  rw [← hd,hl,show ((m + 1 : Nat) : Int) - 1 = (m : Int) by omega,show m + 1 - 1 = m by omega]
 unfold plainW
 rw [e0,takeW9 ({ s with sum:=crcI s.sum b }) b hf,or_u8 _ b hr hb,this,nextW_data]
def RowM (e : TypeId) (w : World) (base : Nat) (v : Value) (xs : List Int) : Prop :=
 w.ownsRow base e 1 v xs.length (nums .u8 xs) ∨
 ∃ g cap cur fz,v = .slice (some ⟨g,0,none⟩) xs.length cap ∧ base ≤ g ∧ w.heap[g]? = some (.cells cur e fz) ∧ cap ≤ fz.1 ∧ xs.length ≤ cap ∧ cap ≤ maxLen ∧ cur.size = cap ∧ cur.toList.take xs.length = nums .u8 xs
theorem RowM.typed {e : TypeId} {w : World} {base : Nat} {v : Value} {xs : List Int} (h : RowM e w base v xs) {k : Nat} (hk : v.ownBlock = some k) : base ≤ k ∧ k < w.heap.size ∧ ∃ cur fz,w.heap[k]? = some (.cells cur e fz):=by
 rcases h with h | ⟨g,cap,cur,fz,rfl,hb,hh,_⟩
 ·obtain ⟨cells,hc⟩:=own_typed h k hk
  exact ⟨own_base h k hk,own_lt h k hk,cells,_,hc⟩
 ·obtain rfl : g = k:=Option.some.inj hk
  exact ⟨hb,(Array.getElem?_eq_some_iff.1 hh).1,cur,fz,hh⟩
theorem RowM.slice {e : TypeId} {w : World} {base : Nat} {v : Value} {xs : List Int} (h : RowM e w base v xs) : ∃ A n c,v = .slice A n c:=by
 rcases h with h | ⟨g,cap,cur,fz,rfl,_⟩
 ·obtain ⟨A,c,e⟩:=own_slice h
  exact ⟨A,_,c,e⟩
 ·exact ⟨_,_,_,rfl⟩
theorem RowM.move {e : TypeId} {w w1 : World} {base : Nat} {v : Value} {xs : List Int} (h : RowM e w base v xs) (hm : ∀ k,v.ownBlock = some k → w1.heap[k]? = w.heap[k]?) : RowM e w1 base v xs:=by
 rcases h with h | ⟨g,cap,cur,fz,rfl,hb,hh,r⟩
 ·exact .inl (own_move h hm)
 ·exact .inr ⟨g,cap,cur,fz,rfl,hb,(hm g rfl).trans hh,r⟩
structure Fr (w w' : World) (p : Nat) (row row' : Option Nat) : Prop where
 os : w'.os = w.os
 tape : w'.tape = w.tape
 output : w'.output = w.output
 size : w.heap.size ≤ w'.heap.size
 block : ∀ k,k < w.heap.size → k ≠ p → some k ≠ row → w'.heap[k]? = w.heap[k]?
 goes : row' = row ∨ ∃ b,row' = some b ∧ w.heap.size ≤ b
theorem Fr.refl (w : World) (p : Nat) (row : Option Nat) : Fr w w p row row:=⟨rfl,rfl,rfl,Nat.le_refl _,fun _ _ _ _ => rfl, .inl rfl⟩
theorem Fr.trans {w w1 w2 : World} {p : Nat} {r r1 r2 : Option Nat} (h : Fr w w1 p r r1) (k : Fr w1 w2 p r1 r2) : Fr w w2 p r r2:=by
 refine ⟨k.os.trans h.os,k.tape.trans h.tape,k.output.trans h.output,Nat.le_trans h.size k.size,fun j hj hp hr => ?_, ?_⟩
 ·refine (k.block j (Nat.lt_of_lt_of_le hj h.size) hp ?_).trans (h.block j hj hp hr)
  rcases h.goes with e | ⟨b,e,hb⟩
  ·rw [e];exact hr
  ·rw [e];intro e2;have:=Option.some.inj e2;omega
 ·rcases k.goes with e | ⟨b,e,hb⟩
  ·rw [e];exact h.goes
  ·exact .inr ⟨b,e,Nat.le_trans h.size hb⟩
theorem Fr.below {B : Nat} {w0 w w' : World} {p : Nat} {r r' : Option Nat} (h : Fr w w' p r r') (hb : Below B w0 w) (hB : B ≤ w.heap.size) (hp : B ≤ p) (hr : ∀ k,r = some k → B ≤ k) : Below B w0 w' :=
 hb.trans ⟨h.os,h.tape,h.output,h.size,fun k hk => h.block k (by omega) (by omega) (fun e => by have:=hr k e.symm;omega)⟩
theorem nums_one (x : Int) : nums .u8 [x] = [.int .u8 x]:=rfl
theorem RowM.append {P : Program} {ops : Array Oper} {rest : List Oper} {o : Oper} {a : Act} {Q : Exit → Act → World → Prop} {W : World} (base : Nat) (hgd : o.guard = none) (s x : Operand) (t e : TypeId)
  (ho : o.op = .call { callee := .builtin .append,args := #[s,x],argTypes := #[t,t] })
  (ht : P.underlying t = some (.slice e)) (hinfo : (P.info? e).map (fun i => (i.zero,i.size,i.bytes)) = some (some (.int .u8 0),1,1))
  (v : Value) (xs : List Int) (b : Int) (hs : a.eval s = v) (hx : a.eval x = .slice (some ⟨W.heap.size,0,none⟩) 1 1)
  (HO : RowM e W base v xs) (hbase : base ≤ W.heap.size) (hl : xs.length + 1 ≤ 1000000)
  (h : ∀ v1 w1,RowM e w1 base v1 (xs ++ [b]) → Fr W w1 W.heap.size v.ownBlock v1.ownBlock → wpList P ops Q rest (a.put o.dst v1) w1) :
  wpList P ops Q (o :: rest) a (W.alloc (.cells #[.int .u8 b] e)):=by
 have hn : (xs ++ [b]).length = xs.length + 1:=by simp
 rcases HO with HO | ⟨g,cap,cur,fz,rfl,hb,hh,hfz,hlc,hcm,hcs,htk⟩
 ·refine print_append_cells (w0:=W) (ys := [.int .u8 b]) base hgd s x t e (.int .u8 0) 1 1 ho ht hinfo rfl (by decide) (by decide) v xs.length (nums .u8 xs) hs hx rfl (by simp [Value.oneCell']) HO (Below.refl _ _) hbase (by omega) ?_
  intro v1 w1 hown _ hg hat
  refine h v1 w1 (.inl (by rw [hn,nums_append];exact hown)) ⟨hg.os,hg.tape,hg.output,hg.size,fun k hk _ hr => hg.block k hk hr, ?_⟩
  rcases hat with e1 | ⟨c,e1,hc⟩
  ·exact .inl e1
  ·exact .inr ⟨c,e1,hc⟩
 ·obtain ⟨i0,hi,hzz⟩:=Option.map_eq_some_iff.1 hinfo
  simp only [Prod.mk.injEq] at hzz
  obtain ⟨hz0,hz1,hz2⟩:=hzz
  have hgl : g < W.heap.size:=(Array.getElem?_eq_some_iff.1 hh).1
  have hhA : (W.alloc (.cells #[.int .u8 b] e)).heap[g]? = some (.cells cur e fz):=(heap_alloc_old W _ hgl).trans hh
  have hcell : ∀ j,(W.alloc (.cells #[.int .u8 b] e)).cell? ⟨g,j,none⟩ = cur[j]?:=fun j => by simp only [World.cell?,hhA];simp
  have hol : (nums .u8 xs).length = xs.length * 1:=by rw [nums_length,Nat.mul_one]
  refine wpList_append_arg (W.alloc (.cells #[.int .u8 b] e)) hgd s x t ho e i0 (.int .u8 0) 1 1 ht hi hz0 hz1 hz2 rfl (by decide) g 0 xs.length cap (nums .u8 xs) hs hol (fun j u hj => ?_) ⟨W.heap.size,0,none⟩ 1 1 [.int .u8 b] hx rfl
   (by simpa using World.news_of_block (cs := #[.int .u8 b]) (t:=e) (fr:=(0,0)) (heap_alloc_new W (.cells #[.int .u8 b] e))) (by simp [Value.oneCell']) (fun hroom j hj => ⟨?_, ?_⟩) (by simp only [maxLen];omega) (by omega) (fun hroom => ?_) (fun _ v1 w1 hown hg => ?_)
  ·rw [Nat.zero_add,hcell]
   have hjl : j < xs.length:=by have:=(List.getElem?_eq_some_iff.1 hj).1;rw [nums_length] at this;exact this
   rw [← htk,List.getElem?_take_of_lt hjl,Array.getElem?_toList] at hj
   exact hj
  ·have hj1 : j < 1:=hj
   rw [hcell,Array.getElem?_eq_getElem (by omega)];rfl
  ·have hj1 : j < 1:=hj
   obtain ⟨lo,hi'⟩:=fz
   simp only [World.frozen?,hhA]
   have hlo : cap ≤ lo:=hfz
   rw [decide_eq_false (show ¬ lo ≤ 0 + xs.length * 1 + j by omega),Bool.false_and]
  ·have e0 : 0 + xs.length * 1 = xs.length:=by omega
   rw [e0]
   have hset : ((W.alloc (.cells #[.int .u8 b] e)).setCell ⟨g,xs.length,none⟩ (.int .u8 b)).heap[g]? = some (.cells (cur.setIfInBounds xs.length (.int .u8 b)) e fz):=by
    simp only [World.setCell,Array.getElem?_modify,hhA]
    simp
   have hs1 : ((W.alloc (.cells #[.int .u8 b] e)).setCell ⟨g,xs.length,none⟩ (.int .u8 b)).heap.size = W.heap.size + 1:=by simp
   refine h _ _ (.inr ⟨g,cap,_,fz,by rw [hn],hb,hset,hfz,by rw [hn];exact hroom,hcm,by simp [hcs], ?_⟩) ⟨rfl,rfl,rfl, ?_,fun k hk _ hr => ?_, .inl rfl⟩
   ·rw [hn,nums_append,nums_one,Array.toList_setIfInBounds,List.take_add_one,List.take_set_of_le (Nat.le_refl _),htk,List.getElem?_set_self (by simpa using (show xs.length < cur.size by omega))]
    rfl
   ·show W.heap.size ≤ ((W.alloc (.cells #[.int .u8 b] e)).setCell ⟨g,xs.length,none⟩ (.int .u8 b)).heap.size
    rw [hs1];omega
   ·show ((W.alloc (.cells #[.int .u8 b] e)).setCell ⟨g,xs.length,none⟩ (.int .u8 b)).heap[k]? = W.heap[k]?
    rw [Below.heap_setCell _ _ _ k (fun e1 => hr (by rw [e1];rfl)),heap_alloc_old W _ hk]
  ·have e1 : nums .u8 xs ++ [Value.int .u8 b] = nums .u8 (xs ++ [b]):=by rw [nums_append,nums_one]
   rw [e1] at hown
   have hw : w1.ownsRow base e 1 v1 (xs ++ [b]).length (nums .u8 (xs ++ [b])):=by rw [hn];exact own_weaken hown (by simp;omega)
   refine h v1 w1 (.inl hw) ⟨hg.os,hg.tape,hg.output,Nat.le_trans (by simp) hg.size,fun k hk hk2 hr => ?_, ?_⟩
   ·rw [hg.block k (by simp;omega) (by simp),heap_alloc_old W _ hk]
   ·rcases hown.2 with ⟨_,h0⟩ | ⟨g',c',cu',rfl,hb',_⟩
    ·omega
    ·exact .inr ⟨g',rfl,by simp at hb';omega⟩
theorem RowM.string {P : Program} {w : World} {base : Nat} {src dst e' e : TypeId} {v : Value} {xs : List Int} (hs : P.underlying src = some (.slice e)) (he : P.underlying e = some (.int .u8)) (hd : P.underlying dst = some .string) (h : RowM e' w base v xs) : (convert src dst v).run P w = .ok (.string (strOfNums xs)) w:=by
 rcases h with h | ⟨g,cap,cur,fz,rfl,hb,hh,hfz,hlc,hcm,hcs,htk⟩
 ·exact own_string hs he hd h
 ·refine run_convert_bytes_arg w src e hs he g 0 xs.length cap xs rfl (fun i hi => ?_) dst hd
  have h1 : (nums .u8 xs)[i]? = some (.int .u8 (xs.getD i 0)):=by simp [nums,List.getElem?_eq_getElem hi,List.getD_eq_getElem?_getD]
  rw [← htk,List.getElem?_take_of_lt hi,Array.getElem?_toList] at h1
  simp only [World.cell?,hh]
  simpa using h1
def numL (u : Nat) : Nat → List Int
 | 0 => []
 | n + 1 => (48 + ((u / 2 ^ n % 2 : Nat) : Int)) :: numL u n
theorem numL_length (u : Nat) : ∀ n,(numL u n).length = n
 | 0 => rfl
 | n + 1 => by rw [numL,List.length_cons,numL_length u n]
theorem Fr.store {w w1 : World} {p : Nat} {r : Option Nat} {v1 : Value} (h : Fr w w1 w.heap.size r v1.ownBlock) (hp : p < w.heap.size) : Fr w (w1.setCell ⟨p,0,none⟩ v1) p r v1.ownBlock :=
 ⟨h.os,h.tape,h.output,by simpa using h.size,fun k hk hkp hr => by
  rw [Below.heap_setCell _ _ _ k hkp];exact h.block k hk (by omega) hr,h.goes⟩
theorem RowM.bytes (w : World) (e : TypeId) (s : ByteArray) (base : Nat) (hb : base ≤ w.heap.size) (hs : s.size ≤ maxLen) : RowM e (Lib.bytesWorld w e s) base (.slice (some ⟨w.heap.size,0,none⟩) s.size (grownCap w s.size 0 e)) (bytesOf s):=by
 have hg:=grownCap_ge w s.size 0 e
 have hz : (Lib.bytesCells w e s).size = grownCap w s.size 0 e:=by simp [Lib.bytesCells];have : s.data.size = s.size:=rfl;omega
 refine .inr ⟨w.heap.size,_,_,_,by rw [bytesOf_length],hb,Lib.bytesWorld_at_new w e s,by rw [hz];exact Nat.le_refl _,by rw [bytesOf_length];exact hg,grownCap_le_maxLen w s.size 0 e hs,hz, ?_⟩
 rw [bytesOf_length]
 unfold Lib.bytesCells nums bytesOf
 rw [Array.toList_append,List.take_append_of_le_length (by simp),List.take_of_length_le (by simp)]
 simp
structure BW (e t : TypeId) (w wr : World) (b p : Nat) (box : Array Value) (tb : TypeId) (v : Value) (xs : List Int) : Prop where
 box : wr.heap[b]? = some (.cells box tb (0,0))
 ptr : wr.heap[p]? = some (.cells #[v] t (0,0))
 row : RowM e wr w.heap.size v xs
 below : Below w.heap.size w wr
 lo : w.heap.size ≤ b
 lp : w.heap.size ≤ p
 ne : b ≠ p
theorem BW.step {e t : TypeId} {w wr w' : World} {b p : Nat} {box : Array Value} {tb : TypeId} {v v' : Value} {xs ys : List Int} (h : BW e t w wr b p box tb v xs) (he : e ≠ tb) (hp : w'.heap[p]? = some (.cells #[v'] t (0,0))) (hv : RowM e w' w.heap.size v' ys) (hf : Fr wr w' p v.ownBlock v'.ownBlock) : BW e t w w' b p box tb v' ys:=by
 refine ⟨(hf.block b (Array.getElem?_eq_some_iff.1 h.box).1 h.ne (fun e1 => ?_)).trans h.box,hp,hv,hf.below h.below h.below.size h.lp (fun k hk => (h.row.typed hk).1),h.lo,h.lp,h.ne⟩
 obtain ⟨_,_,cur,fz,hc⟩:=h.row.typed e1.symm
 rw [h.box] at hc
 injection hc with hc
 injection hc with _ hc
 exact he hc.symm
theorem RowM.nil (e : TypeId) (w : World) (base : Nat) : RowM e w base (.slice none 0 0) [] := .inl (own_nil w base e 1)
def flagL (b : Bool) : List Int := [48 + b2 b]
def dataL (l : List Int) : List Int:=l.flatMap fun x => numL x.toNat 8
def headL (ext : Bool) (id : Int) (rtr : Bool) : List Int :=
 if ext = true then numL 0 1 ++ numL (id.toNat / 262144) 11 ++ numL 3 2 ++ numL id.toNat 18 ++ flagL rtr ++ numL 0 2 else numL 0 1 ++ numL id.toNat 11 ++ flagL rtr ++ numL 0 2
def bodyL (ext : Bool) (id : Int) (rtr : Bool) (dlc : Int) (data : List Int) : List Int:=headL ext id rtr ++ numL dlc.toNat 4 ++ dataL data
theorem headL_length (ext : Bool) (id : Int) (rtr : Bool) : (headL ext id rtr).length ≤ 35:=by
 cases ext <;> simp [headL,numL_length,flagL]
theorem dataL_length (l : List Int) : (dataL l).length = 8 * l.length:=by
 induction l with
 | nil => rfl
 | cons a l ih => rw [dataL,List.flatMap_cons,List.length_append,numL_length,List.length_cons];unfold dataL at ih;omega
theorem dataL_snoc (l : List Int) (x : Int) : dataL (l ++ [x]) = dataL l ++ numL x.toNat 8:=by simp [dataL,List.flatMap_append]
theorem text_ext {a b : ByteArray} (h : a.data.toList = b.data.toList) : a = b:=by
 cases a;cases b
 exact congrArg ByteArray.mk (Array.toList_inj.1 h)
theorem str_append (a b : List Int) : strOfNums (a ++ b) = strOfNums a ++ strOfNums b:=by
 apply text_ext
 rw [Joins.data_append,strOfNums_data,strOfNums_data,strOfNums_data,List.map_append]
theorem str_extract_left (a b : List Int) : (strOfNums (a ++ b)).extract 0 a.length = strOfNums a:=by
 apply text_ext
 rw [Lib.extract_data,strOfNums_data,strOfNums_data,List.drop_zero,List.map_append,Nat.sub_zero]
 exact List.take_left' (by simp)
theorem str_extract_right (a b : List Int) : (strOfNums (a ++ b)).extract a.length (strOfNums (a ++ b)).size = strOfNums b:=by
 apply text_ext
 rw [Lib.extract_data,strOfNums_data,strOfNums_data,List.map_append,List.drop_left' (by simp),strOfNums_size,List.length_append,List.take_of_length_le (by simp)]
theorem str_extract (l : List Int) (a b : Nat) (h : a ≤ b) : (strOfNums l).extract a b = strOfNums ((l.drop a).take (b - a)):=by
 apply text_ext
 rw [Lib.extract_data,strOfNums_data,strOfNums_data,List.map_take,List.map_drop]
theorem bytes_str (l : List Int) (h : ∀ x ∈ l,0 ≤ x ∧ x < 256) : bytesOf (strOfNums l) = l:=by
 unfold bytesOf
 rw [strOfNums_data,List.map_map]
 conv => rhs;rw [← List.map_id l]
 refine List.map_congr_left fun x hx => ?_
 have:=h x hx
 simp only [Function.comp,id]
 rw [UInt8.toNat_ofNat_of_lt' (show x.toNat < UInt8.size by simp [UInt8.size];omega)]
 omega
theorem numL_snoc (u n : Nat) : numL u (n + 1) = numL (u / 2) n ++ [48 + ((u % 2 : Nat) : Int)]:=by
 induction n with
 | zero => simp [numL]
 | succ n ih =>
  rw [numL,ih,numL,List.cons_append]
  congr 3
  rw [Nat.div_div_eq_div_mul,Nat.pow_succ,Nat.mul_comm]
theorem numL_add (u a b : Nat) : numL u (a + b) = numL (u / 2 ^ b) a ++ numL u b:=by
 induction a with
 | zero => rw [Nat.zero_add];rfl
 | succ a ih =>
  rw [show a + 1 + b = (a + b) + 1 by omega,numL,ih,numL,List.cons_append,Nat.div_div_eq_div_mul, ← Nat.pow_add,Nat.add_comm b a]
theorem numL_bits (u n : Nat) : ∀ x ∈ numL u n,x = 48 ∨ x = 49:=by
 induction n with
 | zero => intro x hx;cases hx
 | succ n ih =>
  intro x hx
  rw [numL] at hx
  rcases List.mem_cons.1 hx with rfl | hx
  ·have : u / 2 ^ n % 2 < 2:=Nat.mod_lt _ (by decide)
   omega
  ·exact ih x hx
def Bits (l : List Int) : Prop := ∀ x ∈ l,x = 48 ∨ x = 49
theorem Bits.range {l : List Int} (h : Bits l) : ∀ x ∈ l,0 ≤ x ∧ x < 256:=fun x hx => by rcases h x hx with rfl | rfl <;> omega
theorem Bits.append {a b : List Int} (h : Bits a) (k : Bits b) : Bits (a ++ b):=fun x hx => (List.mem_append.1 hx).elim (h x) (k x)
theorem isBits_str {l : List Int} (h : Bits l) : isBits (strOfNums l) = true:=by
 unfold isBits
 rw [strOfNums_data,List.all_map,List.all_eq_true]
 intro x hx
 rcases h x hx with rfl | rfl <;> rfl
theorem flagL_bits (b : Bool) : Bits (flagL b):=by cases b <;> intro x hx <;> simp [flagL,b2] at hx <;> omega
theorem dataL_bits (l : List Int) : Bits (dataL l):=by
 intro x hx
 obtain ⟨y,_,hy⟩:=List.mem_flatMap.1 hx
 exact numL_bits _ _ x hy
theorem bodyL_bits (ext : Bool) (id : Int) (rtr : Bool) (dlc : Int) (l : List Int) : Bits (bodyL ext id rtr dlc l):=by
 unfold bodyL headL
 refine ((?_ : Bits _).append (numL_bits _ _)).append (dataL_bits l)
 cases ext
 ·exact (((Bits.append (numL_bits _ _) (numL_bits _ _)).append (flagL_bits rtr)).append (numL_bits _ _))
 ·exact ((((Bits.append (Bits.append (numL_bits _ _) (numL_bits _ _)) (numL_bits _ _)).append (numL_bits _ _)).append (flagL_bits rtr)).append (numL_bits _ _))
theorem bodyL_length (ext : Bool) (id : Int) (rtr : Bool) (dlc : Int) (l : List Int) (h : l.length ≤ 8) : (bodyL ext id rtr dlc l).length ≤ 103:=by
 unfold bodyL
 rw [List.length_append,List.length_append,numL_length,dataL_length]
 have:=headL_length ext id rtr
 omega
def plainL (ext : Bool) (id : Int) (rtr : Bool) (dlc : Int) (l : List Int) : List Int:=bodyL ext id rtr dlc l ++ numL (crcL (bodyL ext id rtr dlc l)) 15
theorem plainL_bits (ext : Bool) (id : Int) (rtr : Bool) (dlc : Int) (l : List Int) : Bits (plainL ext id rtr dlc l):=(bodyL_bits ext id rtr dlc l).append (numL_bits _ _)
theorem plainL_length (ext : Bool) (id : Int) (rtr : Bool) (dlc : Int) (l : List Int) (h : l.length ≤ 8) : (plainL ext id rtr dlc l).length ≤ 118:=by
 unfold plainL
 rw [List.length_append,numL_length]
 have:=bodyL_length ext id rtr dlc l h
 omega
def onesL : List Int := [49,49,49,49,49,49,49,49,49,49]
end Go.Proofs.YtdoclpgciadjaaaDoor.P
