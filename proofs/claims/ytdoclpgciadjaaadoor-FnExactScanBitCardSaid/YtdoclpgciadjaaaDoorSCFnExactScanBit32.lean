/- Texts of the proof of CFnExactScanBit, joined. -/
import Derived.Test.YtdoclpgciadjaaaDoorSCFnExactScanBit29
import Derived.Deep.RegionHeld3
import Derived.Test.YtdoclpgciadjaaaDoorSCFnExactScanBit21
import Derived.Test.YtdoclpgciadjaaaDoorSCFnExactScanBit24
import Derived.Test.YtdoclpgciadjaaaDoorSCFnExactScanBit30
import Derived.Test.YtdoclpgciadjaaaDoorSCFnExactScanBit31
import Derived.Test.YtdoclpgciadjaaaDoorSCFnExactScanBit25
namespace Go.Proofs.YtdoclpgciadjaaaDoor.P
open Go.RowKit Go.Proofs.YtdoclpgciadjaaaDoorW.PrintWords Go.Proofs.YtdoclpgciadjaaaDoorW.PrintLast Go.Proofs.YtdoclpgciadjaaaDoorW.PrintMore
set_option linter.unusedVariables false
set_option linter.unusedSimpArgs false
set_option maxHeartbeats 8000000 in
set_option maxRecDepth 100000 in
theorem spec_first_crc_1_0 (w : World) (s : SS) (A : Option Addr) (c : Nat) (hr : Kd.C (Kd.int .u8) w A s.data.length s.data) (hc : s.data.length ≤ c) (hs : Sound s) (i0 : 0 ≤ s.id) (hby : ∀ x ∈ s.data,0 ≤ x ∧ x < 256) (h5 : s.run ≠ 5) (hv : verdictV s 1 = 0) (hlim : s.field = 14 → s.left ≠ 1) (hq : s.field ≤ 10) (hr0 : s.run = 0) (hcr : s.field ≤ 9) :
  Calls Tryd.prog 6 #[.agg #[.int .i64 s.field, .int .i64 s.left, .int .i64 s.run, .int .i64 s.level, .int .i64 s.crc, .int .i64 s.acc, .bool s.ext, .int .u32 s.id, .bool s.rtr, .int .i64 s.dlc,(.slice A s.data.length c)], .int .i64 1] w fun e w' => ∃ v : Value,e = .returned (.tuple #[.agg #[.int .i64 (stepS (takeS (crcT (runS s 1) 1) 1)).field, .int .i64 (stepS (takeS (crcT (runS s 1) 1) 1)).left, .int .i64 (stepS (takeS (crcT (runS s 1) 1) 1)).run, .int .i64 (stepS (takeS (crcT (runS s 1) 1) 1)).level, .int .i64 (stepS (takeS (crcT (runS s 1) 1) 1)).crc, .int .i64 (stepS (takeS (crcT (runS s 1) 1) 1)).acc, .bool (stepS (takeS (crcT (runS s 1) 1) 1)).ext, .int .u32 (stepS (takeS (crcT (runS s 1) 1) 1)).id, .bool (stepS (takeS (crcT (runS s 1) 1) 1)).rtr, .int .i64 (stepS (takeS (crcT (runS s 1) 1) 1)).dlc,v], .int .i64 0]) ∧ Kd.R (Kd.int .u8) 5 w' w.heap.size (fun _ => True) v (stepS (takeS (crcT (runS s 1) 1) 1)).data ∧ Below w.heap.size w w':=by
 have HR:=Lib.hid hr
 have HC:=Lib.hid hc
 clear hr hc
 have HS:=Lib.hid hs
 obtain ⟨K,hcp⟩:=(copySp (s:=s) (by have:=hs.dl;omega)).rounds
 have HCP : Hid (spec_l2copy.f K s.field s.left s.run s.level s.crc s.acc s.ext s.id s.rtr s.dlc s.data = some (s.field,s.left,s.run,s.level,s.crc,s.acc,s.ext,s.id,s.rtr,s.dlc,s.data)):=Lib.hid hcp
 have HSB : Hid (spec_l2sound.f 6 s.field s.left s.run s.level s.crc s.acc s.ext s.id s.rtr s.dlc s.data = some true):=Lib.hid ((soundSp 0 s).trans (by rw [soundB_true hs]))
 have HVB : Hid (spec_l2verdict.f 1 s.field s.left s.run s.level s.crc s.acc s.ext s.id s.rtr s.dlc s.data 1 = some 0):=Lib.hid ((verdictSp 0 s 1).trans (by rw [hv]))
 have b5 : (s.run == 5) = false:=beq_eq_false_iff_ne.mpr h5
 have r0:=hs.r0
 have r1:=hs.r1
 have f0:=hs.f0
 have f1:=hs.f1
 have l0:=hs.l0
 have l1 : s.left ≤ 64:=by have:=(sizeF_le hs.f0 hs.f1 hs.d0).2;have:=hs.l1;omega
 have HE1 : Hid (crcT (runS s 1) 1 = ({ s with run:=1,level:=1,crc:=crcI s.crc 1 } : SS)):=Lib.hid (by rw [show runS s 1 = ({ s with run:=1,level:=1 } : SS) by unfold runS;rw [if_neg (by omega),if_neg (by omega)]];unfold crcT;rw [if_pos (show s.field ≤ 9 from hcr)])
 have HOK : Hid (SOk ({ s with run:=1,level:=1,crc:=crcI s.crc 1 } : SS)):=Lib.hid (by have h:=hs.ok i0 hby;exact ⟨h.f0,h.f1,h.l0,h.l1,h.d0,h.d1,h.i0,h.i1,h.a0,h.a1,h.ne,h.by_,h.dl⟩)
 have HTK : Hid ((takeS ({ s with run:=1,level:=1,crc:=crcI s.crc 1 } : SS) 1).field = s.field ∧ (takeS ({ s with run:=1,level:=1,crc:=crcI s.crc 1 } : SS) 1).left = s.left):=Lib.hid (takeS_keep _ _)
 have HTD : Hid (0 ≤ (takeS ({ s with run:=1,level:=1,crc:=crcI s.crc 1 } : SS) 1).dlc ∧ (takeS ({ s with run:=1,level:=1,crc:=crcI s.crc 1 } : SS) 1).dlc ≤ 15):=Lib.hid (takeS_dlc (s := { s with run:=1,level:=1,crc:=crcI s.crc 1 }) hs.d0 hs.d1 _)
 have HAC : Hid ((takeS ({ s with run:=1,level:=1,crc:=crcI s.crc 1 } : SS) 1).acc = s.acc):=Lib.hid (by rw [takeS_acc (s := { s with run:=1,level:=1,crc:=crcI s.crc 1 }) hs.a0 hs.a1 _ (by omega),if_neg (show ¬ s.field = 10 by omega)])
 have HTF:=Lib.hid (takeS_frame ({ s with run:=1,level:=1,crc:=crcI s.crc 1 } : SS) 1)
 have HSZ0 : Hid (spec_l2size.f s.field s.ext s.id s.rtr s.dlc s.data = some (sizeF s)):=Lib.hid (specSize hs.f0 hs.f1 hs.d0 hs.d1)
 have HSZR : Hid (0 ≤ sizeF s - s.left ∧ sizeF s ≤ 64 ∧ (s.field = 9 → ((sizeF s - s.left) % 8 = 0 ↔ s.left % 8 = 0))):=Lib.hid ⟨by have:=hs.l1;omega,(sizeF_le hs.f0 hs.f1 hs.d0).2,fun h => by have : sizeF s = 8 * (if s.dlc < 8 then s.dlc else 8):=(by unfold sizeF;rw [if_neg (by omega),if_pos h]);rw [this];split <;> omega⟩
 have HCR : Hid (spec_l2crc.f s.crc 1 = some (crcI s.crc 1)):=Lib.hid (crcSp hs.c0 (by have:=hs.c1;omega) (by omega))
 have HLIM:=Lib.hid hlim
 have bten : (s.field == 10) = false:=beq_eq_false_iff_ne.mpr (by omega)
 have hrz : s.run ≤ 0:=by omega
 clear r0 r1 hr0
 clear hs i0 hby h5 hv hlim
 rw [HE1.out]
 generalize hTT : takeS ({ s with run:=1,level:=1,crc:=crcI s.crc 1 } : SS) 1 = T at HTK HTD HAC HTF ⊢
 have HTT:=Lib.hid hTT
 clear hTT
 have HTF2 : Hid (T = { ({ s with run:=1,level:=1,crc:=crcI s.crc 1 } : SS) with ext:=T.ext,id:=T.id,rtr:=T.rtr,dlc:=T.dlc,data:=T.data }):=Lib.hid (by have h:=HTF.out;rw [HAC.out] at h;exact h)
 generalize hZ : sizeF s = SZ0 at HSZ0 HSZR
 have z0:=HSZR.out.1
 have z1:=HSZR.out.2.1
 clear hZ
 clear hcp
 go_enter Tryd.func6,Tryd.ntmps6
 go_wp2_with (fail)
 (refine (spec_l2sound.calls 6 s.field s.left s.run s.level s.crc s.acc s.ext s.id s.rtr s.dlc A c s.data true _ (Kd.C_alloc (Kd.C_alloc HR.out _) _) HC.out HSB.out).mono ?_;rintro e w1 ⟨rfl,hb1⟩;have HW1:=Lib.hid ((SbIn.start w s (.slice A s.data.length c)).step hb1);clear hb1)
 obtain ⟨hx0,hx1,hx2,hx3,hx4,hx5,hx6,hx7,hx8,hx9,hx10⟩:=cSall HW1.out.box
 go_wp2_with (fail)
 clear hx0 hx1 hx2 hx3 hx4 hx5 hx6 hx7 hx8 hx9 hx10
 (refine (spec_l2copy.calls K s.field s.left s.run s.level s.crc s.acc s.ext s.id s.rtr s.dlc A c s.data s.field s.left s.run s.level s.crc s.acc s.ext s.id s.rtr s.dlc s.data _ (Kd.C_below HR.out HW1.out.below) HC.out HCP.out).mono ?_;rintro e w2 ⟨v2,rfl,hr2,hb2⟩;obtain ⟨A2,c2,rfl⟩:=Kd.R_slice hr2;have HW3:=Lib.hid (SpO.start HW1.out hb2 hr2);have hne0 : w.heap.size ≠ w2.heap.size:=(by have:=HW3.out.gg;omega);have hne1 : w2.heap.size ≠ w.heap.size:=(by omega);have hne2 : w.heap.size + 1 ≠ w2.heap.size:=(by have:=HW3.out.gg;omega);have hne3 : w2.heap.size ≠ w.heap.size + 1:=(by omega);have HB2:=Lib.hid hb2;have HR2:=Lib.hid hr2;clear hr2 hb2)
 have hx:=cSall HW3.out.box
 unfold objS cellsS at hx
 obtain ⟨hx0,hx1,hx2,hx3,hx4,hx5,hx6,hx7,hx8,hx9,hx10⟩:=hx
 go_wp2_with (fail)
 (refine (spec_l2verdict.calls 1 s.field s.left s.run s.level s.crc s.acc s.ext s.id s.rtr s.dlc A c s.data 1 0 _ (Kd.C_below HR.out HW3.out.below) HC.out HVB.out).mono ?_;rintro e w4 ⟨rfl,hb4⟩;have HW4:=Lib.hid (HW3.out.step hb4);clear hb4;clear hx0 hx1 hx2 hx3 hx4 hx5 hx6 hx7 hx8 hx9 hx10)
 obtain ⟨hx0,hx1,hx2,hx3,hx4,hx5,hx6,hx7,hx8,hx9,hx10⟩:=cSall HW4.out.box
 obtain ⟨hg0,hg1,hg2,hg3,hg4,hg5,hg6,hg7,hg8,hg9,hg10⟩:=cSall HW4.out.loc
 obtain ⟨hk0,hk1,hk2,hk3,hk4,hk5,hk6,hk7,hk8,hk9,hk10⟩:=fSall HW4.out.loc
 go_wp2_with (fail)
 have HW5:=Lib.hid ((HW4.out.put (setS2 HW4.out.loc (1)) rfl).put (setS3 (setS2 HW4.out.loc (1)) (1)) rfl)
 (refine (spec_l2crc.calls s.crc 1 _ _ HCR.out).mono ?_;rintro e w5 ⟨rfl,hd5⟩;have HW6:=Lib.hid (HW5.out.step hd5.below);clear hd5;clear hx0 hg0 hk0 hx1 hg1 hk1 hx2 hg2 hk2 hx3 hg3 hk3 hx4 hg4 hk4 hx5 hg5 hk5 hx6 hg6 hk6 hx7 hg7 hk7 hx8 hg8 hk8 hx9 hg9 hk9 hx10 hg10 hk10)
 obtain ⟨hx0,hx1,hx2,hx3,hx4,hx5,hx6,hx7,hx8,hx9,hx10⟩:=cSall HW6.out.box
 obtain ⟨hg0,hg1,hg2,hg3,hg4,hg5,hg6,hg7,hg8,hg9,hg10⟩:=cSall HW6.out.loc
 obtain ⟨hk0,hk1,hk2,hk3,hk4,hk5,hk6,hk7,hk8,hk9,hk10⟩:=fSall HW6.out.loc
 have HW7 : Hid (SpO w _ s _ _ ({ s with run:=1,level:=1,crc:=crcI s.crc 1 } : SS) _):=Lib.hid (HW6.out.put (setS4 HW6.out.loc (crcI s.crc 1)) rfl)
 go_wp2_with (fail)
 clear hx0 hg0 hk0 hx1 hg1 hk1 hx2 hg2 hk2 hx3 hg3 hk3 hx4 hg4 hk4 hx5 hg5 hk5 hx6 hg6 hk6 hx7 hg7 hk7 hx8 hg8 hk8 hx9 hg9 hk9 hx10 hg10 hk10
 generalize hW7 : (w5.setCell ⟨w2.heap.size,4,none⟩ (.int .i64 (crcI s.crc 1))) = w7 at HW7 ⊢
 clear hW7
 have HW7d:=Lib.hid (HW7.out.step (below_drew (Below.refl _ _)))
 obtain ⟨hx0,hx1,hx2,hx3,hx4,hx5,hx6,hx7,hx8,hx9,hx10⟩:=cSall HW7.out.box
 obtain ⟨hg0,hg1,hg2,hg3,hg4,hg5,hg6,hg7,hg8,hg9,hg10⟩:=cSall HW7.out.loc
 obtain ⟨hk0,hk1,hk2,hk3,hk4,hk5,hk6,hk7,hk8,hk9,hk10⟩:=fSall HW7.out.loc
 have hwz : IntKind.i64.wrap (SZ0 - s.left) = SZ0 - s.left:=by rw [IntKind.wrap_i64];omega
 have HH : Hid (∀ w' : World,w'.heap[w.heap.size]? = some (objS s (.slice A s.data.length c)) → ((w'.cell? ⟨w.heap.size,0,none⟩ = some (.int .i64 s.field)) ∧ (w'.cell? ⟨w.heap.size,1,none⟩ = some (.int .i64 s.left)) ∧ (w'.cell? ⟨w.heap.size,6,none⟩ = some (.bool s.ext)) ∧ (w'.cell? ⟨w.heap.size,7,none⟩ = some (.int .u32 s.id)) ∧ (w'.cell? ⟨w.heap.size,8,none⟩ = some (.bool s.rtr)) ∧ (w'.cell? ⟨w.heap.size,9,none⟩ = some (.int .i64 s.dlc)) ∧ (w'.cell? ⟨w.heap.size,10,none⟩ = some (.slice A s.data.length c)))):=Lib.hid (fun w' h => ⟨cS0 h,cS1 h,cS6 h,cS7 h,cS8 h,cS9 h,cS10 h⟩)
 refine wp_region_noPanic ?_
 refine wp_region_held_drew (S:=fun w' => (w'.cell? ⟨w.heap.size,0,none⟩ = some (.int .i64 s.field)) ∧ (w'.cell? ⟨w.heap.size,1,none⟩ = some (.int .i64 s.left)) ∧ (w'.cell? ⟨w.heap.size,6,none⟩ = some (.bool s.ext)) ∧ (w'.cell? ⟨w.heap.size,7,none⟩ = some (.int .u32 s.id)) ∧ (w'.cell? ⟨w.heap.size,8,none⟩ = some (.bool s.rtr)) ∧ (w'.cell? ⟨w.heap.size,9,none⟩ = some (.int .i64 s.dlc)) ∧ (w'.cell? ⟨w.heap.size,10,none⟩ = some (.slice A s.data.length c))) (by kernel_rfl) (HH.out _ HW7d.out.box) (fun hH0 => ?_)
 refine wpAnyH_take (i:=0) (v := .pointer (some ⟨w2.heap.size,6,none⟩)) rfl (by kernel_rfl) (by kernel_rfl) (by kernel_rfl) (fun _ _ _ h => h) (Or.inl ⟨by rfl, ?hy1⟩) (by assumption) ?_
 case hy1 => (intro wq hSw;(try dsimp only at hSw);go_simp;try (with_reducible rfl))
 refine wpAnyH_take (i:=2) (v := .pointer (some ⟨w.heap.size,0,none⟩)) rfl (by kernel_rfl) (by kernel_rfl) (by kernel_rfl) (fun _ _ _ h => h) (Or.inl ⟨by rfl, ?hy2⟩) (by assumption) ?_
 case hy2 => (intro wq hSw;(try dsimp only at hSw);go_simp;try (with_reducible rfl))
 refine wpAnyH_take (i:=3) (v := .int .i64 s.field) rfl (by kernel_rfl) (by kernel_rfl) (by kernel_rfl) (fun _ _ _ h => h) (Or.inl ⟨by rfl, ?hy3⟩) (by assumption) ?_
 case hy3 => (intro wq hSw;(try dsimp only at hSw);go_simp;try (with_reducible rfl))
 refine wpAnyH_take (i:=4) (v := .pointer (some ⟨w.heap.size,0,none⟩)) rfl (by kernel_rfl) (by kernel_rfl) (by kernel_rfl) (fun _ _ _ h => h) (Or.inl ⟨by rfl, ?hy4⟩) (by assumption) ?_
 case hy4 => (intro wq hSw;(try dsimp only at hSw);go_simp;try (with_reducible rfl))
 refine wpAnyH_take (i:=5) (v := .int .i64 s.field) rfl (by kernel_rfl) (by kernel_rfl) (by kernel_rfl) (fun _ _ _ h => h) (Or.inl ⟨by rfl, ?hy5⟩) (by assumption) ?_
 case hy5 => (intro wq hSw;(try dsimp only at hSw);go_simp;try (with_reducible rfl))
 refine wpAnyH_take (i:=6) (v := .pointer (some ⟨w.heap.size,6,none⟩)) rfl (by kernel_rfl) (by kernel_rfl) (by kernel_rfl) (fun _ _ _ h => h) (Or.inl ⟨by rfl, ?hy6⟩) (by assumption) ?_
 case hy6 => (intro wq hSw;(try dsimp only at hSw);go_simp;try (with_reducible rfl))
 refine wpAnyH_take (i:=7) (v := .agg #[.bool s.ext, .int .u32 s.id, .bool s.rtr, .int .i64 s.dlc,(.slice A s.data.length c)]) rfl (by kernel_rfl) (by kernel_rfl) (by kernel_rfl) (fun _ _ _ h => h) (Or.inl ⟨by rfl, ?hy7⟩) (by assumption) ?_
 case hy7 => (intro wq hSw;(try dsimp only at hSw);go_simp;try (with_reducible rfl))
 refine wpAnyH_take (i:=9) (v := .pointer (some ⟨w.heap.size,1,none⟩)) rfl (by kernel_rfl) (by kernel_rfl) (by kernel_rfl) (fun _ _ _ h => h) (Or.inl ⟨by rfl, ?hy8⟩) (by assumption) ?_
 case hy8 => (intro wq hSw;(try dsimp only at hSw);go_simp;try (with_reducible rfl))
 refine wpAnyH_take (i:=10) (v := .int .i64 s.left) rfl (by kernel_rfl) (by kernel_rfl) (by kernel_rfl) (fun _ _ _ h => h) (Or.inl ⟨by rfl, ?hy9⟩) (by assumption) ?_
 case hy9 => (intro wq hSw;(try dsimp only at hSw);go_simp;try (with_reducible rfl))
 refine wpAnyH_take (i:=12) (v := .int .i64 1) rfl (by kernel_rfl) (by kernel_rfl) (by kernel_rfl) (fun _ _ _ h => h) (Or.inl ⟨by rfl, ?hy10⟩) (by assumption) ?_
 case hy10 => (intro wq hSw;(try dsimp only at hSw);go_simp;try (with_reducible rfl))
 refine wpAnyH_ready (rs := [1,8]) (by kernel_rfl) (by simp) ?_
 refine AllReadyH.cons rfl (fun K hK => ?wa) (AllReadyH.cons rfl (fun K hK => ?wb) AllReadyH.nil)
 case' wa =>
  go_simp
  refine hK.out _ _ (HH.out _ HW7d.out.box) (fun hH1 => ?_)
  clear hK K
  refine wpAnyH_ready (rs := [8]) (by kernel_rfl) (by simp) ?_
  refine AllReadyH.cons rfl (fun K hK => ?_) AllReadyH.nil
  go_simp
  go_wp2_with (first | (go_at_call 24;refine (spec_l2size.calls s.field s.ext s.id s.rtr s.dlc A c s.data SZ0 _ (Kd.C_below HR.out HW7d.out.below) HC.out HSZ0.out).mono ?_;rintro e w8 ⟨rfl,hb8⟩;have HW8:=Lib.hid (HW7d.out.step hb8);clear hb8;clear hx0 hg0 hk0 hx1 hg1 hk1 hx2 hg2 hk2 hx3 hg3 hk3 hx4 hg4 hk4 hx5 hg5 hk5 hx6 hg6 hk6 hx7 hg7 hk7 hx8 hg8 hk8 hx9 hg9 hk9 hx10 hg10 hk10;obtain ⟨hx0,hx1,hx2,hx3,hx4,hx5,hx6,hx7,hx8,hx9,hx10⟩:=cSall HW8.out.box;obtain ⟨hg0,hg1,hg2,hg3,hg4,hg5,hg6,hg7,hg8,hg9,hg10⟩:=cSall HW8.out.loc;obtain ⟨hk0,hk1,hk2,hk3,hk4,hk5,hk6,hk7,hk8,hk9,hk10⟩:=fSall HW8.out.loc))
  refine hK.out _ _ (HH.out _ HW8.out.box) (fun hH2 => ?_)
  clear hK K
  refine wpAnyH_take (i:=11) (v := .int .i64 (SZ0 - s.left)) rfl (by kernel_rfl) (by kernel_rfl) (by kernel_rfl) (fun _ _ _ h => h) (Or.inl ⟨by rfl, ?hy11⟩) (by assumption) ?_
  case hy11 => (intro wq hSw;(try dsimp only at hSw);go_simp;try (with_reducible rfl))
 case' wb =>
  go_simp
  go_wp2_with (first | (go_at_call 24;refine (spec_l2size.calls s.field s.ext s.id s.rtr s.dlc A c s.data SZ0 _ (Kd.C_below HR.out HW7d.out.below) HC.out HSZ0.out).mono ?_;rintro e w8 ⟨rfl,hb8⟩;have HW8:=Lib.hid (HW7d.out.step hb8);clear hb8;clear hx0 hg0 hk0 hx1 hg1 hk1 hx2 hg2 hk2 hx3 hg3 hk3 hx4 hg4 hk4 hx5 hg5 hk5 hx6 hg6 hk6 hx7 hg7 hk7 hx8 hg8 hk8 hx9 hg9 hk9 hx10 hg10 hk10;obtain ⟨hx0,hx1,hx2,hx3,hx4,hx5,hx6,hx7,hx8,hx9,hx10⟩:=cSall HW8.out.box;obtain ⟨hg0,hg1,hg2,hg3,hg4,hg5,hg6,hg7,hg8,hg9,hg10⟩:=cSall HW8.out.loc;obtain ⟨hk0,hk1,hk2,hk3,hk4,hk5,hk6,hk7,hk8,hk9,hk10⟩:=fSall HW8.out.loc))
  refine hK.out _ _ (HH.out _ HW8.out.box) (fun hH2 => ?_)
  clear hK K
  refine wpAnyH_take (i:=11) (v := .int .i64 (SZ0 - s.left)) rfl (by kernel_rfl) (by kernel_rfl) (by kernel_rfl) (fun _ _ _ h => h) (Or.inl ⟨by rfl, ?hy12⟩) (by assumption) ?_
  case hy12 => (intro wq hSw;(try dsimp only at hSw);go_simp;try (with_reducible rfl))
  refine wpAnyH_ready (rs := [1]) (by kernel_rfl) (by simp) ?_
  refine AllReadyH.cons rfl (fun K hK => ?_) AllReadyH.nil
  go_simp
  refine hK.out _ _ (HH.out _ HW8.out.box) (fun hH1 => ?_)
  clear hK K
 all_goals
  refine wpAnyH_ready (rs := [13]) (by kernel_rfl) (by simp) ?_
  refine AllReadyH.cons rfl (fun K hK => ?_) AllReadyH.nil
  go_simp
  go_wp2_with (first | (go_at_call 23;refine (spec_l2take.at_ w _ ({ s with run:=1,level:=1,crc:=crcI s.crc 1 } : SS) A2 c2 (SZ0 - s.left) (fun k => w.heap.size + 1 < k ∧ k ≠ w2.heap.size) HW8.out.row HW8.out.below HW8.out.frame HOK.out 1 (Or.inr rfl) HSZR.out.1 HSZR.out.2.2).mono ?_;rw [HTT.out];rintro e w9 ⟨v9,rfl,hr9,ht9⟩;obtain ⟨A5,c5,rfl⟩:=Kd.R_slice hr9;have HW10:=Lib.hid (SpO.took HW8.out hr9 ht9 HTF2.out);have hbx:=(ht9.block (by have:=HW8.out.lt;omega) (by rintro ⟨e,_⟩;omega)).trans HW8.out.box;have hlx:=(ht9.block HW8.out.glt (by rintro ⟨_,e⟩;exact e rfl)).trans HW8.out.loc;clear hx0 hg0 hk0 hx1 hg1 hk1 hx2 hg2 hk2 hx3 hg3 hk3 hx4 hg4 hk4 hx5 hg5 hk5 hx6 hg6 hk6 hx7 hg7 hk7 hx8 hg8 hk8 hx9 hg9 hk9 hx10 hg10 hk10;obtain ⟨hx0,hx1,hx2,hx3,hx4,hx5,hx6,hx7,hx8,hx9,hx10⟩:=cSall hbx;obtain ⟨hg0,hg1,hg2,hg3,hg4,hg5,hg6,hg7,hg8,hg9,hg10⟩:=cSall hlx;obtain ⟨hk0,hk1,hk2,hk3,hk4,hk5,hk6,hk7,hk8,hk9,hk10⟩:=fSall hlx;have HBX:=Lib.hid hbx;have HLX:=Lib.hid hlx;clear hr9 ht9 hbx hlx))
  refine hK.out _ _ (HH.out _ HBX.out) (fun hH4 => ?_)
  clear hK K
  refine wpAnyH_take (i:=14) (v := .pointer (some ⟨w2.heap.size,6,none⟩)) rfl (by kernel_rfl) (by kernel_rfl) (by kernel_rfl) (fun _ _ _ h => h) (Or.inl ⟨by rfl, ?hy13⟩) (by assumption) ?_
  case hy13 => (intro wq hSw;(try dsimp only at hSw);go_simp;try (with_reducible rfl))
  refine wpAnyH_ready (rs := [15]) (by kernel_rfl) (by simp) ?_
  refine AllReadyH.cons rfl (fun K hK => ?_) AllReadyH.nil
  go_simp
  refine hK.out _ _ (HH.out _ HW10.out.box) (fun hH5 => ?_)
  clear hK K
  refine wpAnyH_done (by kernel_rfl) ?_ _
  refine NoPanic.normal ?_
  clear hH0 hH1 hH2 hH4 hH5
  clear hx0 hg0 hk0 hx1 hg1 hk1 hx2 hg2 hk2 hx3 hg3 hk3 hx4 hg4 hk4 hx5 hg5 hk5 hx6 hg6 hk6 hx7 hg7 hk7 hx8 hg8 hk8 hx9 hg9 hk9 hx10 hg10 hk10
  generalize hW10 : ((((w9.setCell ⟨w2.heap.size,6,none⟩ (.bool T.ext)).setCell ⟨w2.heap.size,7,none⟩ (.int .u32 T.id)).setCell ⟨w2.heap.size,8,none⟩ (.bool T.rtr)).setCell ⟨w2.heap.size,9,none⟩ (.int .i64 T.dlc)).setCell ⟨w2.heap.size,10,none⟩ (.slice A5 T.data.length c5) = w10 at HW10 ⊢
  clear hW10 HB2 HR2 HW1 HW3 HW4 HBX HLX HW7 HW7d HW8 HCP HSB HVB HTF HTF2 HSZ0 HSZR HE1 HOK HAC HTT HW5 HW6 HCR
  clear hwz
  obtain ⟨hx0,hx1,hx2,hx3,hx4,hx5,hx6,hx7,hx8,hx9,hx10⟩:=cSall HW10.out.box
  obtain ⟨hg0,hg1,hg2,hg3,hg4,hg5,hg6,hg7,hg8,hg9,hg10⟩:=cSall HW10.out.loc
  obtain ⟨hk0,hk1,hk2,hk3,hk4,hk5,hk6,hk7,hk8,hk9,hk10⟩:=fSall HW10.out.loc
  have HFT : Hid (1 ≤ T.field ∧ T.field ≤ 14 ∧ (T.field = 14 → s.left ≠ 1)):=Lib.hid (by have h:=HTK.out.1;have h2:=HLIM.out;exact ⟨by omega,by omega,by rw [h];exact h2⟩)
  have HW11:=Lib.hid (HW10.out.put (setS1 HW10.out.loc (s.left - 1)) rfl)
  by_cases hL : s.left - 1 = 0
  ·have bL : (s.left - 1 == 0) = true:=beq_iff_eq.mpr hL
   have HSTEP : Hid (stepS T = enterS T (afterF T)):=Lib.hid (by unfold stepS;rw [HTK.out.2,if_pos hL])
   have HAR : Hid (1 ≤ afterF T ∧ afterF T ≤ 14):=Lib.hid (by have h2:=HFT.out;exact afterF_range (by omega) (by omega))
   have HAI : Hid (spec_l2after.f 1 s.field T.ext T.id T.rtr T.dlc T.data = some (afterF T)):=Lib.hid (by have h:=afterSp 0 (s:=T) HFT.out.1 HFT.out.2.1;rw [HTK.out.1] at h;exact h)
   have HSI : Hid (spec_l2size.f (afterF T) T.ext T.id T.rtr T.dlc T.data = some (sizeF { T with field:=afterF T })):=Lib.hid (specSize (s := { T with field:=afterF T }) HAR.out.1 HAR.out.2 HTD.out.1 HTD.out.2)
   generalize afterF T = AF at HSTEP HAR HAI HSI
   clear hL
   go_wp2_with (fail)
   (refine (spec_l2after.calls 1 s.field T.ext T.id T.rtr T.dlc A5 c5 T.data AF _ (Kd.R_reads' HW11.out.row).2.2 (Kd.R_reads' HW11.out.row).2.1 HAI.out).mono ?_;rintro e w12 ⟨rfl,hb12⟩;have HW12:=Lib.hid (HW11.out.step hb12);clear hb12;clear hx0 hg0 hk0 hx1 hg1 hk1 hx2 hg2 hk2 hx3 hg3 hk3 hx4 hg4 hk4 hx5 hg5 hk5 hx6 hg6 hk6 hx7 hg7 hk7 hx8 hg8 hk8 hx9 hg9 hk9 hx10 hg10 hk10;obtain ⟨hx0,hx1,hx2,hx3,hx4,hx5,hx6,hx7,hx8,hx9,hx10⟩:=cSall HW12.out.box;obtain ⟨hg0,hg1,hg2,hg3,hg4,hg5,hg6,hg7,hg8,hg9,hg10⟩:=cSall HW12.out.loc;obtain ⟨hk0,hk1,hk2,hk3,hk4,hk5,hk6,hk7,hk8,hk9,hk10⟩:=fSall HW12.out.loc)
   have HW13:=Lib.hid (HW12.out.put (setS0 HW12.out.loc AF) rfl)
   go_wp2_with (fail)
   (refine (spec_l2size.calls AF T.ext T.id T.rtr T.dlc A5 c5 T.data _ _ (Kd.R_reads' HW13.out.row).2.2 (Kd.R_reads' HW13.out.row).2.1 HSI.out).mono ?_;rintro e w14 ⟨rfl,hb14⟩;have HW14:=Lib.hid (HW13.out.step hb14);clear hb14;clear hx0 hg0 hk0 hx1 hg1 hk1 hx2 hg2 hk2 hx3 hg3 hk3 hx4 hg4 hk4 hx5 hg5 hk5 hx6 hg6 hk6 hx7 hg7 hk7 hx8 hg8 hk8 hx9 hg9 hk9 hx10 hg10 hk10;obtain ⟨hx0,hx1,hx2,hx3,hx4,hx5,hx6,hx7,hx8,hx9,hx10⟩:=cSall HW14.out.box;obtain ⟨hg0,hg1,hg2,hg3,hg4,hg5,hg6,hg7,hg8,hg9,hg10⟩:=cSall HW14.out.loc;obtain ⟨hk0,hk1,hk2,hk3,hk4,hk5,hk6,hk7,hk8,hk9,hk10⟩:=fSall HW14.out.loc)
   generalize hSZ : sizeF { T with field:=AF } = SZ at HSI ⊢
   have HSZ:=Lib.hid hSZ
   clear hSZ
   have HW15:=Lib.hid (HW14.out.put (setS1 HW14.out.loc SZ) rfl)
   by_cases h9 : AF = 9
   ·have b9 : (AF == 9) = true:=beq_iff_eq.mpr h9
    have HH9:=Lib.hid h9
    clear h9
    have hns:=HW15.out.nil
    have hsz15 : (w14.setCell ⟨w2.heap.size,1,none⟩ (.int .i64 SZ)).heap.size = w14.heap.size:=by simp [World.setCell]
    rw [hsz15] at hns
    have HW16:=Lib.hid hns
    clear hns hsz15
    obtain ⟨hh0,hh1,hh2,hh3,hh4,hh5,hh6,hh7,hh8,hh9,hh10⟩:=cSall (blk_alloc HW15.out.loc (.cells #[] 5))
    have hhf:=fS (blk_alloc HW15.out.loc (.cells #[] 5)) 10
    go_wp2_with ((with_reducible refine gate_store (t:=31) (p:=4) rfl ?_);refine store_box rfl rfl rfl (g:=w.heap.size + 1) (j:=0) (cs := #[.int .i64 0, .int .i64 0, .int .i64 0, .int .i64 0, .int .i64 0, .int .i64 0, .bool false, .int .u32 0, .bool false, .int .i64 0, .slice none 0 0]) (cs' := #[.int .i64 AF, .int .i64 SZ, .int .i64 T.run, .int .i64 T.level, .int .i64 T.crc, .int .i64 T.acc, .bool T.ext, .int .u32 T.id, .bool T.rtr, .int .i64 T.dlc,(.slice (some ⟨w14.heap.size,0,none⟩) 0 0)]) (T:=31) (u := .agg #[.int .i64 AF, .int .i64 SZ, .int .i64 T.run, .int .i64 T.level, .int .i64 T.crc, .int .i64 T.acc, .bool T.ext, .int .u32 T.id, .bool T.rtr, .int .i64 T.dlc,(.slice (some ⟨w14.heap.size,0,none⟩) 0 0)]) (seg := [.int .i64 AF, .int .i64 SZ, .int .i64 T.run, .int .i64 T.level, .int .i64 T.crc, .int .i64 T.acc, .bool T.ext, .int .u32 T.id, .bool T.rtr, .int .i64 T.dlc,(.slice (some ⟨w14.heap.size,0,none⟩) 0 0)]) rfl rfl HW16.out.res rfl (by kernel_rfl) rfl rfl rfl ?_;intro wz hx hT;have HX:=Lib.hid hx;have HTZ:=Lib.hid hT;have HBz:=Lib.hid (hT.below HW16.out.below HW16.out.below.size (fun k hk => by omega));clear hx hT)
    refine bodyPost_ret (results_ct rfl _ _ (w.heap.size + 1) 31 #[.int .i64 AF, .int .i64 SZ, .int .i64 T.run, .int .i64 T.level, .int .i64 T.crc, .int .i64 T.acc, .bool T.ext, .int .u32 T.id, .bool T.rtr, .int .i64 T.dlc,(.slice (some ⟨w14.heap.size,0,none⟩) 0 0)] (0,0) _ rfl HX.out Tryd.underlying31 rfl (by kernel_rfl)) rfl ?_
    rw [HSTEP.out,show enterS T AF = { T with field:=AF,left:=SZ,data := [] } by unfold enterS;rw [if_pos HH9.out,HSZ.out]]
    exact ⟨_,rfl,Kd.R_mono (HTZ.out.R HW16.out.row (fun k hk e => by omega)) (fun _ _ => trivial),HBz.out⟩
   ·have b9 : (AF == 9) = false:=beq_eq_false_iff_ne.mpr h9
    have HH9:=Lib.hid h9
    clear h9
    go_wp2_with ((with_reducible refine gate_store (t:=31) (p:=4) rfl ?_);refine store_box rfl rfl rfl (g:=w.heap.size + 1) (j:=0) (cs := #[.int .i64 0, .int .i64 0, .int .i64 0, .int .i64 0, .int .i64 0, .int .i64 0, .bool false, .int .u32 0, .bool false, .int .i64 0, .slice none 0 0]) (cs' := #[.int .i64 AF, .int .i64 SZ, .int .i64 T.run, .int .i64 T.level, .int .i64 T.crc, .int .i64 T.acc, .bool T.ext, .int .u32 T.id, .bool T.rtr, .int .i64 T.dlc,(.slice A5 T.data.length c5)]) (T:=31) (u := .agg #[.int .i64 AF, .int .i64 SZ, .int .i64 T.run, .int .i64 T.level, .int .i64 T.crc, .int .i64 T.acc, .bool T.ext, .int .u32 T.id, .bool T.rtr, .int .i64 T.dlc,(.slice A5 T.data.length c5)]) (seg := [.int .i64 AF, .int .i64 SZ, .int .i64 T.run, .int .i64 T.level, .int .i64 T.crc, .int .i64 T.acc, .bool T.ext, .int .u32 T.id, .bool T.rtr, .int .i64 T.dlc,(.slice A5 T.data.length c5)]) rfl rfl HW15.out.res rfl (by kernel_rfl) rfl rfl rfl ?_;intro wz hx hT;have HX:=Lib.hid hx;have HTZ:=Lib.hid hT;have HBz:=Lib.hid (hT.below HW15.out.below HW15.out.below.size (fun k hk => by omega));clear hx hT)
    refine bodyPost_ret (results_ct rfl _ _ (w.heap.size + 1) 31 #[.int .i64 AF, .int .i64 SZ, .int .i64 T.run, .int .i64 T.level, .int .i64 T.crc, .int .i64 T.acc, .bool T.ext, .int .u32 T.id, .bool T.rtr, .int .i64 T.dlc,(.slice A5 T.data.length c5)] (0,0) _ rfl HX.out Tryd.underlying31 rfl (by kernel_rfl)) rfl ?_
    rw [HSTEP.out,show enterS T AF = { T with field:=AF,left:=SZ } by unfold enterS;rw [if_neg HH9.out,HSZ.out]]
    exact ⟨_,rfl,Kd.R_mono (HTZ.out.R HW15.out.row (fun k hk e => by omega)) (fun _ _ => trivial),HBz.out⟩
  ·have bL : (s.left - 1 == 0) = false:=beq_eq_false_iff_ne.mpr hL
   have HSTEP : Hid (stepS T = { T with left:=s.left - 1 }):=Lib.hid (by unfold stepS;rw [HTK.out.2,if_neg hL])
   clear hL
   go_wp2_with ((with_reducible refine gate_store (t:=31) (p:=4) rfl ?_);refine store_box rfl rfl rfl (g:=w.heap.size + 1) (j:=0) (cs := #[.int .i64 0, .int .i64 0, .int .i64 0, .int .i64 0, .int .i64 0, .int .i64 0, .bool false, .int .u32 0, .bool false, .int .i64 0, .slice none 0 0]) (cs' := #[.int .i64 T.field, .int .i64 (s.left - 1), .int .i64 T.run, .int .i64 T.level, .int .i64 T.crc, .int .i64 T.acc, .bool T.ext, .int .u32 T.id, .bool T.rtr, .int .i64 T.dlc,(.slice A5 T.data.length c5)]) (T:=31) (u := .agg #[.int .i64 T.field, .int .i64 (s.left - 1), .int .i64 T.run, .int .i64 T.level, .int .i64 T.crc, .int .i64 T.acc, .bool T.ext, .int .u32 T.id, .bool T.rtr, .int .i64 T.dlc,(.slice A5 T.data.length c5)]) (seg := [.int .i64 T.field, .int .i64 (s.left - 1), .int .i64 T.run, .int .i64 T.level, .int .i64 T.crc, .int .i64 T.acc, .bool T.ext, .int .u32 T.id, .bool T.rtr, .int .i64 T.dlc,(.slice A5 T.data.length c5)]) rfl rfl HW11.out.res rfl (by kernel_rfl) rfl rfl rfl ?_;intro wz hx hT;have HX:=Lib.hid hx;have HTZ:=Lib.hid hT;have HBz:=Lib.hid (hT.below HW11.out.below HW11.out.below.size (fun k hk => by omega));clear hx hT)
   refine bodyPost_ret (results_ct rfl _ _ (w.heap.size + 1) 31 #[.int .i64 T.field, .int .i64 (s.left - 1), .int .i64 T.run, .int .i64 T.level, .int .i64 T.crc, .int .i64 T.acc, .bool T.ext, .int .u32 T.id, .bool T.rtr, .int .i64 T.dlc,(.slice A5 T.data.length c5)] (0,0) _ rfl HX.out Tryd.underlying31 rfl (by kernel_rfl)) rfl ?_
   rw [HSTEP.out]
   exact ⟨_,rfl,Kd.R_mono (HTZ.out.R HW11.out.row (fun k hk e => by omega)) (fun _ _ => trivial),HBz.out⟩
end Go.Proofs.YtdoclpgciadjaaaDoor.P

namespace Go.Proofs.YtdoclpgciadjaaaDoor.P
open Go.RowKit Go.Proofs.YtdoclpgciadjaaaDoorW.PrintWords Go.Proofs.YtdoclpgciadjaaaDoorW.PrintLast Go.Proofs.YtdoclpgciadjaaaDoorW.PrintMore
set_option linter.unusedVariables false
set_option linter.unusedSimpArgs false
set_option maxHeartbeats 8000000 in
set_option maxRecDepth 100000 in
theorem spec_quiet_0_1 (w : World) (s : SS) (A : Option Addr) (c : Nat) (hr : Kd.C (Kd.int .u8) w A s.data.length s.data) (hc : s.data.length ≤ c) (hs : Sound s) (i0 : 0 ≤ s.id) (hby : ∀ x ∈ s.data,0 ≤ x ∧ x < 256) (h5 : s.run ≠ 5) (hv : verdictV s 0 = 1) (hlim : s.field = 14 → s.left ≠ 1) (hq : 10 < s.field) :
  Calls Tryd.prog 6 #[.agg #[.int .i64 s.field, .int .i64 s.left, .int .i64 s.run, .int .i64 s.level, .int .i64 s.crc, .int .i64 s.acc, .bool s.ext, .int .u32 s.id, .bool s.rtr, .int .i64 s.dlc,(.slice A s.data.length c)], .int .i64 0] w fun e w' => ∃ v : Value,e = .returned (.tuple #[.agg #[.int .i64 (stepS (takeS (crcT (runS s 0) 0) 0)).field, .int .i64 (stepS (takeS (crcT (runS s 0) 0) 0)).left, .int .i64 (stepS (takeS (crcT (runS s 0) 0) 0)).run, .int .i64 (stepS (takeS (crcT (runS s 0) 0) 0)).level, .int .i64 (stepS (takeS (crcT (runS s 0) 0) 0)).crc, .int .i64 (stepS (takeS (crcT (runS s 0) 0) 0)).acc, .bool (stepS (takeS (crcT (runS s 0) 0) 0)).ext, .int .u32 (stepS (takeS (crcT (runS s 0) 0) 0)).id, .bool (stepS (takeS (crcT (runS s 0) 0) 0)).rtr, .int .i64 (stepS (takeS (crcT (runS s 0) 0) 0)).dlc,v], .int .i64 1]) ∧ Kd.R (Kd.int .u8) 5 w' w.heap.size (fun _ => True) v (stepS (takeS (crcT (runS s 0) 0) 0)).data ∧ Below w.heap.size w w':=by
 have HR:=Lib.hid hr
 have HC:=Lib.hid hc
 clear hr hc
 have HS:=Lib.hid hs
 obtain ⟨K,hcp⟩:=(copySp (s:=s) (by have:=hs.dl;omega)).rounds
 have HCP : Hid (spec_l2copy.f K s.field s.left s.run s.level s.crc s.acc s.ext s.id s.rtr s.dlc s.data = some (s.field,s.left,s.run,s.level,s.crc,s.acc,s.ext,s.id,s.rtr,s.dlc,s.data)):=Lib.hid hcp
 have HSB : Hid (spec_l2sound.f 6 s.field s.left s.run s.level s.crc s.acc s.ext s.id s.rtr s.dlc s.data = some true):=Lib.hid ((soundSp 0 s).trans (by rw [soundB_true hs]))
 have HVB : Hid (spec_l2verdict.f 1 s.field s.left s.run s.level s.crc s.acc s.ext s.id s.rtr s.dlc s.data 0 = some 1):=Lib.hid ((verdictSp 0 s 0).trans (by rw [hv]))
 have b5 : (s.run == 5) = false:=beq_eq_false_iff_ne.mpr h5
 have r0:=hs.r0
 have r1:=hs.r1
 have f0:=hs.f0
 have f1:=hs.f1
 have l0:=hs.l0
 have l1 : s.left ≤ 64:=by have:=(sizeF_le hs.f0 hs.f1 hs.d0).2;have:=hs.l1;omega
 have HE1 : Hid (crcT (runS s 0) 0 = ({ s with run:=0,level:=0 } : SS)):=Lib.hid (by rw [show runS s 0 = ({ s with run:=0,level:=0 } : SS) by unfold runS;rw [if_pos hq]];unfold crcT;rw [if_neg (show ¬ s.field ≤ 9 by omega)])
 have HOK : Hid (SOk ({ s with run:=0,level:=0 } : SS)):=Lib.hid (by have h:=hs.ok i0 hby;exact ⟨h.f0,h.f1,h.l0,h.l1,h.d0,h.d1,h.i0,h.i1,h.a0,h.a1,h.ne,h.by_,h.dl⟩)
 have HTK : Hid ((takeS ({ s with run:=0,level:=0 } : SS) 0).field = s.field ∧ (takeS ({ s with run:=0,level:=0 } : SS) 0).left = s.left):=Lib.hid (takeS_keep _ _)
 have HTD : Hid (0 ≤ (takeS ({ s with run:=0,level:=0 } : SS) 0).dlc ∧ (takeS ({ s with run:=0,level:=0 } : SS) 0).dlc ≤ 15):=Lib.hid (takeS_dlc (s := { s with run:=0,level:=0 }) hs.d0 hs.d1 _)
 have HAC : Hid ((takeS ({ s with run:=0,level:=0 } : SS) 0).acc = s.acc):=Lib.hid (by rw [takeS_acc (s := { s with run:=0,level:=0 }) hs.a0 hs.a1 _ (by omega),if_neg (show ¬ s.field = 10 by omega)])
 have HTF:=Lib.hid (takeS_frame ({ s with run:=0,level:=0 } : SS) 0)
 have HSZ0 : Hid (spec_l2size.f s.field s.ext s.id s.rtr s.dlc s.data = some (sizeF s)):=Lib.hid (specSize hs.f0 hs.f1 hs.d0 hs.d1)
 have HSZR : Hid (0 ≤ sizeF s - s.left ∧ sizeF s ≤ 64 ∧ (s.field = 9 → ((sizeF s - s.left) % 8 = 0 ↔ s.left % 8 = 0))):=Lib.hid ⟨by have:=hs.l1;omega,(sizeF_le hs.f0 hs.f1 hs.d0).2,fun h => by have : sizeF s = 8 * (if s.dlc < 8 then s.dlc else 8):=(by unfold sizeF;rw [if_neg (by omega),if_pos h]);rw [this];split <;> omega⟩
 have HLIM:=Lib.hid hlim
 have bten : (s.field == 10) = false:=beq_eq_false_iff_ne.mpr (by omega)
 clear hs i0 hby h5 hv hlim
 rw [HE1.out]
 generalize hTT : takeS ({ s with run:=0,level:=0 } : SS) 0 = T at HTK HTD HAC HTF ⊢
 have HTT:=Lib.hid hTT
 clear hTT
 have HTF2 : Hid (T = { ({ s with run:=0,level:=0 } : SS) with ext:=T.ext,id:=T.id,rtr:=T.rtr,dlc:=T.dlc,data:=T.data }):=Lib.hid (by have h:=HTF.out;rw [HAC.out] at h;exact h)
 generalize hZ : sizeF s = SZ0 at HSZ0 HSZR
 have z0:=HSZR.out.1
 have z1:=HSZR.out.2.1
 clear hZ
 clear hcp
 go_enter Tryd.func6,Tryd.ntmps6
 go_wp2_with (fail)
 (refine (spec_l2sound.calls 6 s.field s.left s.run s.level s.crc s.acc s.ext s.id s.rtr s.dlc A c s.data true _ (Kd.C_alloc (Kd.C_alloc HR.out _) _) HC.out HSB.out).mono ?_;rintro e w1 ⟨rfl,hb1⟩;have HW1:=Lib.hid ((SbIn.start w s (.slice A s.data.length c)).step hb1);clear hb1)
 obtain ⟨hx0,hx1,hx2,hx3,hx4,hx5,hx6,hx7,hx8,hx9,hx10⟩:=cSall HW1.out.box
 go_wp2_with (fail)
 clear hx0 hx1 hx2 hx3 hx4 hx5 hx6 hx7 hx8 hx9 hx10
 (refine (spec_l2copy.calls K s.field s.left s.run s.level s.crc s.acc s.ext s.id s.rtr s.dlc A c s.data s.field s.left s.run s.level s.crc s.acc s.ext s.id s.rtr s.dlc s.data _ (Kd.C_below HR.out HW1.out.below) HC.out HCP.out).mono ?_;rintro e w2 ⟨v2,rfl,hr2,hb2⟩;obtain ⟨A2,c2,rfl⟩:=Kd.R_slice hr2;have HW3:=Lib.hid (SpO.start HW1.out hb2 hr2);have hne0 : w.heap.size ≠ w2.heap.size:=(by have:=HW3.out.gg;omega);have hne1 : w2.heap.size ≠ w.heap.size:=(by omega);have hne2 : w.heap.size + 1 ≠ w2.heap.size:=(by have:=HW3.out.gg;omega);have hne3 : w2.heap.size ≠ w.heap.size + 1:=(by omega);have HB2:=Lib.hid hb2;have HR2:=Lib.hid hr2;clear hr2 hb2)
 have hx:=cSall HW3.out.box
 unfold objS cellsS at hx
 obtain ⟨hx0,hx1,hx2,hx3,hx4,hx5,hx6,hx7,hx8,hx9,hx10⟩:=hx
 go_wp2_with (fail)
 (refine (spec_l2verdict.calls 1 s.field s.left s.run s.level s.crc s.acc s.ext s.id s.rtr s.dlc A c s.data 0 1 _ (Kd.C_below HR.out HW3.out.below) HC.out HVB.out).mono ?_;rintro e w4 ⟨rfl,hb4⟩;have HW4:=Lib.hid (HW3.out.step hb4);clear hb4;clear hx0 hx1 hx2 hx3 hx4 hx5 hx6 hx7 hx8 hx9 hx10)
 obtain ⟨hx0,hx1,hx2,hx3,hx4,hx5,hx6,hx7,hx8,hx9,hx10⟩:=cSall HW4.out.box
 obtain ⟨hg0,hg1,hg2,hg3,hg4,hg5,hg6,hg7,hg8,hg9,hg10⟩:=cSall HW4.out.loc
 obtain ⟨hk0,hk1,hk2,hk3,hk4,hk5,hk6,hk7,hk8,hk9,hk10⟩:=fSall HW4.out.loc
 have HW7 : Hid (SpO w _ s _ _ ({ s with run:=0,level:=0 } : SS) _):=Lib.hid ((HW4.out.put (setS2 HW4.out.loc (0)) rfl).put (setS3 (setS2 HW4.out.loc (0)) (0)) rfl)
 go_wp2_with (fail)
 clear hx0 hg0 hk0 hx1 hg1 hk1 hx2 hg2 hk2 hx3 hg3 hk3 hx4 hg4 hk4 hx5 hg5 hk5 hx6 hg6 hk6 hx7 hg7 hk7 hx8 hg8 hk8 hx9 hg9 hk9 hx10 hg10 hk10
 generalize hW7 : ((w4.setCell ⟨w2.heap.size,2,none⟩ (.int .i64 (0))).setCell ⟨w2.heap.size,3,none⟩ (.int .i64 (0))) = w7 at HW7 ⊢
 clear hW7
 have HW7d:=Lib.hid (HW7.out.step (below_drew (Below.refl _ _)))
 obtain ⟨hx0,hx1,hx2,hx3,hx4,hx5,hx6,hx7,hx8,hx9,hx10⟩:=cSall HW7.out.box
 obtain ⟨hg0,hg1,hg2,hg3,hg4,hg5,hg6,hg7,hg8,hg9,hg10⟩:=cSall HW7.out.loc
 obtain ⟨hk0,hk1,hk2,hk3,hk4,hk5,hk6,hk7,hk8,hk9,hk10⟩:=fSall HW7.out.loc
 have hwz : IntKind.i64.wrap (SZ0 - s.left) = SZ0 - s.left:=by rw [IntKind.wrap_i64];omega
 have HH : Hid (∀ w' : World,w'.heap[w.heap.size]? = some (objS s (.slice A s.data.length c)) → ((w'.cell? ⟨w.heap.size,0,none⟩ = some (.int .i64 s.field)) ∧ (w'.cell? ⟨w.heap.size,1,none⟩ = some (.int .i64 s.left)) ∧ (w'.cell? ⟨w.heap.size,6,none⟩ = some (.bool s.ext)) ∧ (w'.cell? ⟨w.heap.size,7,none⟩ = some (.int .u32 s.id)) ∧ (w'.cell? ⟨w.heap.size,8,none⟩ = some (.bool s.rtr)) ∧ (w'.cell? ⟨w.heap.size,9,none⟩ = some (.int .i64 s.dlc)) ∧ (w'.cell? ⟨w.heap.size,10,none⟩ = some (.slice A s.data.length c)))):=Lib.hid (fun w' h => ⟨cS0 h,cS1 h,cS6 h,cS7 h,cS8 h,cS9 h,cS10 h⟩)
 refine wp_region_noPanic ?_
 refine wp_region_held_drew (S:=fun w' => (w'.cell? ⟨w.heap.size,0,none⟩ = some (.int .i64 s.field)) ∧ (w'.cell? ⟨w.heap.size,1,none⟩ = some (.int .i64 s.left)) ∧ (w'.cell? ⟨w.heap.size,6,none⟩ = some (.bool s.ext)) ∧ (w'.cell? ⟨w.heap.size,7,none⟩ = some (.int .u32 s.id)) ∧ (w'.cell? ⟨w.heap.size,8,none⟩ = some (.bool s.rtr)) ∧ (w'.cell? ⟨w.heap.size,9,none⟩ = some (.int .i64 s.dlc)) ∧ (w'.cell? ⟨w.heap.size,10,none⟩ = some (.slice A s.data.length c))) (by kernel_rfl) (HH.out _ HW7d.out.box) (fun hH0 => ?_)
 refine wpAnyH_take (i:=0) (v := .pointer (some ⟨w2.heap.size,6,none⟩)) rfl (by kernel_rfl) (by kernel_rfl) (by kernel_rfl) (fun _ _ _ h => h) (Or.inl ⟨by rfl, ?hy1⟩) (by assumption) ?_
 case hy1 => (intro wq hSw;(try dsimp only at hSw);go_simp;try (with_reducible rfl))
 refine wpAnyH_take (i:=2) (v := .pointer (some ⟨w.heap.size,0,none⟩)) rfl (by kernel_rfl) (by kernel_rfl) (by kernel_rfl) (fun _ _ _ h => h) (Or.inl ⟨by rfl, ?hy2⟩) (by assumption) ?_
 case hy2 => (intro wq hSw;(try dsimp only at hSw);go_simp;try (with_reducible rfl))
 refine wpAnyH_take (i:=3) (v := .int .i64 s.field) rfl (by kernel_rfl) (by kernel_rfl) (by kernel_rfl) (fun _ _ _ h => h) (Or.inl ⟨by rfl, ?hy3⟩) (by assumption) ?_
 case hy3 => (intro wq hSw;(try dsimp only at hSw);go_simp;try (with_reducible rfl))
 refine wpAnyH_take (i:=4) (v := .pointer (some ⟨w.heap.size,0,none⟩)) rfl (by kernel_rfl) (by kernel_rfl) (by kernel_rfl) (fun _ _ _ h => h) (Or.inl ⟨by rfl, ?hy4⟩) (by assumption) ?_
 case hy4 => (intro wq hSw;(try dsimp only at hSw);go_simp;try (with_reducible rfl))
 refine wpAnyH_take (i:=5) (v := .int .i64 s.field) rfl (by kernel_rfl) (by kernel_rfl) (by kernel_rfl) (fun _ _ _ h => h) (Or.inl ⟨by rfl, ?hy5⟩) (by assumption) ?_
 case hy5 => (intro wq hSw;(try dsimp only at hSw);go_simp;try (with_reducible rfl))
 refine wpAnyH_take (i:=6) (v := .pointer (some ⟨w.heap.size,6,none⟩)) rfl (by kernel_rfl) (by kernel_rfl) (by kernel_rfl) (fun _ _ _ h => h) (Or.inl ⟨by rfl, ?hy6⟩) (by assumption) ?_
 case hy6 => (intro wq hSw;(try dsimp only at hSw);go_simp;try (with_reducible rfl))
 refine wpAnyH_take (i:=7) (v := .agg #[.bool s.ext, .int .u32 s.id, .bool s.rtr, .int .i64 s.dlc,(.slice A s.data.length c)]) rfl (by kernel_rfl) (by kernel_rfl) (by kernel_rfl) (fun _ _ _ h => h) (Or.inl ⟨by rfl, ?hy7⟩) (by assumption) ?_
 case hy7 => (intro wq hSw;(try dsimp only at hSw);go_simp;try (with_reducible rfl))
 refine wpAnyH_take (i:=9) (v := .pointer (some ⟨w.heap.size,1,none⟩)) rfl (by kernel_rfl) (by kernel_rfl) (by kernel_rfl) (fun _ _ _ h => h) (Or.inl ⟨by rfl, ?hy8⟩) (by assumption) ?_
 case hy8 => (intro wq hSw;(try dsimp only at hSw);go_simp;try (with_reducible rfl))
 refine wpAnyH_take (i:=10) (v := .int .i64 s.left) rfl (by kernel_rfl) (by kernel_rfl) (by kernel_rfl) (fun _ _ _ h => h) (Or.inl ⟨by rfl, ?hy9⟩) (by assumption) ?_
 case hy9 => (intro wq hSw;(try dsimp only at hSw);go_simp;try (with_reducible rfl))
 refine wpAnyH_take (i:=12) (v := .int .i64 0) rfl (by kernel_rfl) (by kernel_rfl) (by kernel_rfl) (fun _ _ _ h => h) (Or.inl ⟨by rfl, ?hy10⟩) (by assumption) ?_
 case hy10 => (intro wq hSw;(try dsimp only at hSw);go_simp;try (with_reducible rfl))
 refine wpAnyH_ready (rs := [1,8]) (by kernel_rfl) (by simp) ?_
 refine AllReadyH.cons rfl (fun K hK => ?wa) (AllReadyH.cons rfl (fun K hK => ?wb) AllReadyH.nil)
 case' wa =>
  go_simp
  refine hK.out _ _ (HH.out _ HW7d.out.box) (fun hH1 => ?_)
  clear hK K
  refine wpAnyH_ready (rs := [8]) (by kernel_rfl) (by simp) ?_
  refine AllReadyH.cons rfl (fun K hK => ?_) AllReadyH.nil
  go_simp
  go_wp2_with (first | (go_at_call 24;refine (spec_l2size.calls s.field s.ext s.id s.rtr s.dlc A c s.data SZ0 _ (Kd.C_below HR.out HW7d.out.below) HC.out HSZ0.out).mono ?_;rintro e w8 ⟨rfl,hb8⟩;have HW8:=Lib.hid (HW7d.out.step hb8);clear hb8;clear hx0 hg0 hk0 hx1 hg1 hk1 hx2 hg2 hk2 hx3 hg3 hk3 hx4 hg4 hk4 hx5 hg5 hk5 hx6 hg6 hk6 hx7 hg7 hk7 hx8 hg8 hk8 hx9 hg9 hk9 hx10 hg10 hk10;obtain ⟨hx0,hx1,hx2,hx3,hx4,hx5,hx6,hx7,hx8,hx9,hx10⟩:=cSall HW8.out.box;obtain ⟨hg0,hg1,hg2,hg3,hg4,hg5,hg6,hg7,hg8,hg9,hg10⟩:=cSall HW8.out.loc;obtain ⟨hk0,hk1,hk2,hk3,hk4,hk5,hk6,hk7,hk8,hk9,hk10⟩:=fSall HW8.out.loc))
  refine hK.out _ _ (HH.out _ HW8.out.box) (fun hH2 => ?_)
  clear hK K
  refine wpAnyH_take (i:=11) (v := .int .i64 (SZ0 - s.left)) rfl (by kernel_rfl) (by kernel_rfl) (by kernel_rfl) (fun _ _ _ h => h) (Or.inl ⟨by rfl, ?hy11⟩) (by assumption) ?_
  case hy11 => (intro wq hSw;(try dsimp only at hSw);go_simp;try (with_reducible rfl))
 case' wb =>
  go_simp
  go_wp2_with (first | (go_at_call 24;refine (spec_l2size.calls s.field s.ext s.id s.rtr s.dlc A c s.data SZ0 _ (Kd.C_below HR.out HW7d.out.below) HC.out HSZ0.out).mono ?_;rintro e w8 ⟨rfl,hb8⟩;have HW8:=Lib.hid (HW7d.out.step hb8);clear hb8;clear hx0 hg0 hk0 hx1 hg1 hk1 hx2 hg2 hk2 hx3 hg3 hk3 hx4 hg4 hk4 hx5 hg5 hk5 hx6 hg6 hk6 hx7 hg7 hk7 hx8 hg8 hk8 hx9 hg9 hk9 hx10 hg10 hk10;obtain ⟨hx0,hx1,hx2,hx3,hx4,hx5,hx6,hx7,hx8,hx9,hx10⟩:=cSall HW8.out.box;obtain ⟨hg0,hg1,hg2,hg3,hg4,hg5,hg6,hg7,hg8,hg9,hg10⟩:=cSall HW8.out.loc;obtain ⟨hk0,hk1,hk2,hk3,hk4,hk5,hk6,hk7,hk8,hk9,hk10⟩:=fSall HW8.out.loc))
  refine hK.out _ _ (HH.out _ HW8.out.box) (fun hH2 => ?_)
  clear hK K
  refine wpAnyH_take (i:=11) (v := .int .i64 (SZ0 - s.left)) rfl (by kernel_rfl) (by kernel_rfl) (by kernel_rfl) (fun _ _ _ h => h) (Or.inl ⟨by rfl, ?hy12⟩) (by assumption) ?_
  case hy12 => (intro wq hSw;(try dsimp only at hSw);go_simp;try (with_reducible rfl))
  refine wpAnyH_ready (rs := [1]) (by kernel_rfl) (by simp) ?_
  refine AllReadyH.cons rfl (fun K hK => ?_) AllReadyH.nil
  go_simp
  refine hK.out _ _ (HH.out _ HW8.out.box) (fun hH1 => ?_)
  clear hK K
 all_goals
  refine wpAnyH_ready (rs := [13]) (by kernel_rfl) (by simp) ?_
  refine AllReadyH.cons rfl (fun K hK => ?_) AllReadyH.nil
  go_simp
  go_wp2_with (first | (go_at_call 23;refine (spec_l2take.at_ w _ ({ s with run:=0,level:=0 } : SS) A2 c2 (SZ0 - s.left) (fun k => w.heap.size + 1 < k ∧ k ≠ w2.heap.size) HW8.out.row HW8.out.below HW8.out.frame HOK.out 0 (Or.inl rfl) HSZR.out.1 HSZR.out.2.2).mono ?_;rw [HTT.out];rintro e w9 ⟨v9,rfl,hr9,ht9⟩;obtain ⟨A5,c5,rfl⟩:=Kd.R_slice hr9;have HW10:=Lib.hid (SpO.took HW8.out hr9 ht9 HTF2.out);have hbx:=(ht9.block (by have:=HW8.out.lt;omega) (by rintro ⟨e,_⟩;omega)).trans HW8.out.box;have hlx:=(ht9.block HW8.out.glt (by rintro ⟨_,e⟩;exact e rfl)).trans HW8.out.loc;clear hx0 hg0 hk0 hx1 hg1 hk1 hx2 hg2 hk2 hx3 hg3 hk3 hx4 hg4 hk4 hx5 hg5 hk5 hx6 hg6 hk6 hx7 hg7 hk7 hx8 hg8 hk8 hx9 hg9 hk9 hx10 hg10 hk10;obtain ⟨hx0,hx1,hx2,hx3,hx4,hx5,hx6,hx7,hx8,hx9,hx10⟩:=cSall hbx;obtain ⟨hg0,hg1,hg2,hg3,hg4,hg5,hg6,hg7,hg8,hg9,hg10⟩:=cSall hlx;obtain ⟨hk0,hk1,hk2,hk3,hk4,hk5,hk6,hk7,hk8,hk9,hk10⟩:=fSall hlx;have HBX:=Lib.hid hbx;have HLX:=Lib.hid hlx;clear hr9 ht9 hbx hlx))
  refine hK.out _ _ (HH.out _ HBX.out) (fun hH4 => ?_)
  clear hK K
  refine wpAnyH_take (i:=14) (v := .pointer (some ⟨w2.heap.size,6,none⟩)) rfl (by kernel_rfl) (by kernel_rfl) (by kernel_rfl) (fun _ _ _ h => h) (Or.inl ⟨by rfl, ?hy13⟩) (by assumption) ?_
  case hy13 => (intro wq hSw;(try dsimp only at hSw);go_simp;try (with_reducible rfl))
  refine wpAnyH_ready (rs := [15]) (by kernel_rfl) (by simp) ?_
  refine AllReadyH.cons rfl (fun K hK => ?_) AllReadyH.nil
  go_simp
  refine hK.out _ _ (HH.out _ HW10.out.box) (fun hH5 => ?_)
  clear hK K
  refine wpAnyH_done (by kernel_rfl) ?_ _
  refine NoPanic.normal ?_
  clear hH0 hH1 hH2 hH4 hH5
  clear hx0 hg0 hk0 hx1 hg1 hk1 hx2 hg2 hk2 hx3 hg3 hk3 hx4 hg4 hk4 hx5 hg5 hk5 hx6 hg6 hk6 hx7 hg7 hk7 hx8 hg8 hk8 hx9 hg9 hk9 hx10 hg10 hk10
  generalize hW10 : ((((w9.setCell ⟨w2.heap.size,6,none⟩ (.bool T.ext)).setCell ⟨w2.heap.size,7,none⟩ (.int .u32 T.id)).setCell ⟨w2.heap.size,8,none⟩ (.bool T.rtr)).setCell ⟨w2.heap.size,9,none⟩ (.int .i64 T.dlc)).setCell ⟨w2.heap.size,10,none⟩ (.slice A5 T.data.length c5) = w10 at HW10 ⊢
  clear hW10 HB2 HR2 HW1 HW3 HW4 HBX HLX HW7 HW7d HW8 HCP HSB HVB HTF HTF2 HSZ0 HSZR HE1 HOK HAC HTT
  clear hwz
  obtain ⟨hx0,hx1,hx2,hx3,hx4,hx5,hx6,hx7,hx8,hx9,hx10⟩:=cSall HW10.out.box
  obtain ⟨hg0,hg1,hg2,hg3,hg4,hg5,hg6,hg7,hg8,hg9,hg10⟩:=cSall HW10.out.loc
  obtain ⟨hk0,hk1,hk2,hk3,hk4,hk5,hk6,hk7,hk8,hk9,hk10⟩:=fSall HW10.out.loc
  have HFT : Hid (1 ≤ T.field ∧ T.field ≤ 14 ∧ (T.field = 14 → s.left ≠ 1)):=Lib.hid (by have h:=HTK.out.1;have h2:=HLIM.out;exact ⟨by omega,by omega,by rw [h];exact h2⟩)
  have HW11:=Lib.hid (HW10.out.put (setS1 HW10.out.loc (s.left - 1)) rfl)
  by_cases hL : s.left - 1 = 0
  ·have bL : (s.left - 1 == 0) = true:=beq_iff_eq.mpr hL
   have HSTEP : Hid (stepS T = enterS T (afterF T)):=Lib.hid (by unfold stepS;rw [HTK.out.2,if_pos hL])
   have HAR : Hid (1 ≤ afterF T ∧ afterF T ≤ 14):=Lib.hid (by have h2:=HFT.out;exact afterF_range (by omega) (by omega))
   have HAI : Hid (spec_l2after.f 1 s.field T.ext T.id T.rtr T.dlc T.data = some (afterF T)):=Lib.hid (by have h:=afterSp 0 (s:=T) HFT.out.1 HFT.out.2.1;rw [HTK.out.1] at h;exact h)
   have HSI : Hid (spec_l2size.f (afterF T) T.ext T.id T.rtr T.dlc T.data = some (sizeF { T with field:=afterF T })):=Lib.hid (specSize (s := { T with field:=afterF T }) HAR.out.1 HAR.out.2 HTD.out.1 HTD.out.2)
   generalize afterF T = AF at HSTEP HAR HAI HSI
   clear hL
   go_wp2_with (fail)
   (refine (spec_l2after.calls 1 s.field T.ext T.id T.rtr T.dlc A5 c5 T.data AF _ (Kd.R_reads' HW11.out.row).2.2 (Kd.R_reads' HW11.out.row).2.1 HAI.out).mono ?_;rintro e w12 ⟨rfl,hb12⟩;have HW12:=Lib.hid (HW11.out.step hb12);clear hb12;clear hx0 hg0 hk0 hx1 hg1 hk1 hx2 hg2 hk2 hx3 hg3 hk3 hx4 hg4 hk4 hx5 hg5 hk5 hx6 hg6 hk6 hx7 hg7 hk7 hx8 hg8 hk8 hx9 hg9 hk9 hx10 hg10 hk10;obtain ⟨hx0,hx1,hx2,hx3,hx4,hx5,hx6,hx7,hx8,hx9,hx10⟩:=cSall HW12.out.box;obtain ⟨hg0,hg1,hg2,hg3,hg4,hg5,hg6,hg7,hg8,hg9,hg10⟩:=cSall HW12.out.loc;obtain ⟨hk0,hk1,hk2,hk3,hk4,hk5,hk6,hk7,hk8,hk9,hk10⟩:=fSall HW12.out.loc)
   have HW13:=Lib.hid (HW12.out.put (setS0 HW12.out.loc AF) rfl)
   go_wp2_with (fail)
   (refine (spec_l2size.calls AF T.ext T.id T.rtr T.dlc A5 c5 T.data _ _ (Kd.R_reads' HW13.out.row).2.2 (Kd.R_reads' HW13.out.row).2.1 HSI.out).mono ?_;rintro e w14 ⟨rfl,hb14⟩;have HW14:=Lib.hid (HW13.out.step hb14);clear hb14;clear hx0 hg0 hk0 hx1 hg1 hk1 hx2 hg2 hk2 hx3 hg3 hk3 hx4 hg4 hk4 hx5 hg5 hk5 hx6 hg6 hk6 hx7 hg7 hk7 hx8 hg8 hk8 hx9 hg9 hk9 hx10 hg10 hk10;obtain ⟨hx0,hx1,hx2,hx3,hx4,hx5,hx6,hx7,hx8,hx9,hx10⟩:=cSall HW14.out.box;obtain ⟨hg0,hg1,hg2,hg3,hg4,hg5,hg6,hg7,hg8,hg9,hg10⟩:=cSall HW14.out.loc;obtain ⟨hk0,hk1,hk2,hk3,hk4,hk5,hk6,hk7,hk8,hk9,hk10⟩:=fSall HW14.out.loc)
   generalize hSZ : sizeF { T with field:=AF } = SZ at HSI ⊢
   have HSZ:=Lib.hid hSZ
   clear hSZ
   have HW15:=Lib.hid (HW14.out.put (setS1 HW14.out.loc SZ) rfl)
   by_cases h9 : AF = 9
   ·have b9 : (AF == 9) = true:=beq_iff_eq.mpr h9
    have HH9:=Lib.hid h9
    clear h9
    have hns:=HW15.out.nil
    have hsz15 : (w14.setCell ⟨w2.heap.size,1,none⟩ (.int .i64 SZ)).heap.size = w14.heap.size:=by simp [World.setCell]
    rw [hsz15] at hns
    have HW16:=Lib.hid hns
    clear hns hsz15
    obtain ⟨hh0,hh1,hh2,hh3,hh4,hh5,hh6,hh7,hh8,hh9,hh10⟩:=cSall (blk_alloc HW15.out.loc (.cells #[] 5))
    have hhf:=fS (blk_alloc HW15.out.loc (.cells #[] 5)) 10
    go_wp2_with ((with_reducible refine gate_store (t:=31) (p:=4) rfl ?_);refine store_box rfl rfl rfl (g:=w.heap.size + 1) (j:=0) (cs := #[.int .i64 0, .int .i64 0, .int .i64 0, .int .i64 0, .int .i64 0, .int .i64 0, .bool false, .int .u32 0, .bool false, .int .i64 0, .slice none 0 0]) (cs' := #[.int .i64 AF, .int .i64 SZ, .int .i64 T.run, .int .i64 T.level, .int .i64 T.crc, .int .i64 T.acc, .bool T.ext, .int .u32 T.id, .bool T.rtr, .int .i64 T.dlc,(.slice (some ⟨w14.heap.size,0,none⟩) 0 0)]) (T:=31) (u := .agg #[.int .i64 AF, .int .i64 SZ, .int .i64 T.run, .int .i64 T.level, .int .i64 T.crc, .int .i64 T.acc, .bool T.ext, .int .u32 T.id, .bool T.rtr, .int .i64 T.dlc,(.slice (some ⟨w14.heap.size,0,none⟩) 0 0)]) (seg := [.int .i64 AF, .int .i64 SZ, .int .i64 T.run, .int .i64 T.level, .int .i64 T.crc, .int .i64 T.acc, .bool T.ext, .int .u32 T.id, .bool T.rtr, .int .i64 T.dlc,(.slice (some ⟨w14.heap.size,0,none⟩) 0 0)]) rfl rfl HW16.out.res rfl (by kernel_rfl) rfl rfl rfl ?_;intro wz hx hT;have HX:=Lib.hid hx;have HTZ:=Lib.hid hT;have HBz:=Lib.hid (hT.below HW16.out.below HW16.out.below.size (fun k hk => by omega));clear hx hT)
    refine bodyPost_ret (results_ct rfl _ _ (w.heap.size + 1) 31 #[.int .i64 AF, .int .i64 SZ, .int .i64 T.run, .int .i64 T.level, .int .i64 T.crc, .int .i64 T.acc, .bool T.ext, .int .u32 T.id, .bool T.rtr, .int .i64 T.dlc,(.slice (some ⟨w14.heap.size,0,none⟩) 0 0)] (0,0) _ rfl HX.out Tryd.underlying31 rfl (by kernel_rfl)) rfl ?_
    rw [HSTEP.out,show enterS T AF = { T with field:=AF,left:=SZ,data := [] } by unfold enterS;rw [if_pos HH9.out,HSZ.out]]
    exact ⟨_,rfl,Kd.R_mono (HTZ.out.R HW16.out.row (fun k hk e => by omega)) (fun _ _ => trivial),HBz.out⟩
   ·have b9 : (AF == 9) = false:=beq_eq_false_iff_ne.mpr h9
    have HH9:=Lib.hid h9
    clear h9
    go_wp2_with ((with_reducible refine gate_store (t:=31) (p:=4) rfl ?_);refine store_box rfl rfl rfl (g:=w.heap.size + 1) (j:=0) (cs := #[.int .i64 0, .int .i64 0, .int .i64 0, .int .i64 0, .int .i64 0, .int .i64 0, .bool false, .int .u32 0, .bool false, .int .i64 0, .slice none 0 0]) (cs' := #[.int .i64 AF, .int .i64 SZ, .int .i64 T.run, .int .i64 T.level, .int .i64 T.crc, .int .i64 T.acc, .bool T.ext, .int .u32 T.id, .bool T.rtr, .int .i64 T.dlc,(.slice A5 T.data.length c5)]) (T:=31) (u := .agg #[.int .i64 AF, .int .i64 SZ, .int .i64 T.run, .int .i64 T.level, .int .i64 T.crc, .int .i64 T.acc, .bool T.ext, .int .u32 T.id, .bool T.rtr, .int .i64 T.dlc,(.slice A5 T.data.length c5)]) (seg := [.int .i64 AF, .int .i64 SZ, .int .i64 T.run, .int .i64 T.level, .int .i64 T.crc, .int .i64 T.acc, .bool T.ext, .int .u32 T.id, .bool T.rtr, .int .i64 T.dlc,(.slice A5 T.data.length c5)]) rfl rfl HW15.out.res rfl (by kernel_rfl) rfl rfl rfl ?_;intro wz hx hT;have HX:=Lib.hid hx;have HTZ:=Lib.hid hT;have HBz:=Lib.hid (hT.below HW15.out.below HW15.out.below.size (fun k hk => by omega));clear hx hT)
    refine bodyPost_ret (results_ct rfl _ _ (w.heap.size + 1) 31 #[.int .i64 AF, .int .i64 SZ, .int .i64 T.run, .int .i64 T.level, .int .i64 T.crc, .int .i64 T.acc, .bool T.ext, .int .u32 T.id, .bool T.rtr, .int .i64 T.dlc,(.slice A5 T.data.length c5)] (0,0) _ rfl HX.out Tryd.underlying31 rfl (by kernel_rfl)) rfl ?_
    rw [HSTEP.out,show enterS T AF = { T with field:=AF,left:=SZ } by unfold enterS;rw [if_neg HH9.out,HSZ.out]]
    exact ⟨_,rfl,Kd.R_mono (HTZ.out.R HW15.out.row (fun k hk e => by omega)) (fun _ _ => trivial),HBz.out⟩
  ·have bL : (s.left - 1 == 0) = false:=beq_eq_false_iff_ne.mpr hL
   have HSTEP : Hid (stepS T = { T with left:=s.left - 1 }):=Lib.hid (by unfold stepS;rw [HTK.out.2,if_neg hL])
   clear hL
   go_wp2_with ((with_reducible refine gate_store (t:=31) (p:=4) rfl ?_);refine store_box rfl rfl rfl (g:=w.heap.size + 1) (j:=0) (cs := #[.int .i64 0, .int .i64 0, .int .i64 0, .int .i64 0, .int .i64 0, .int .i64 0, .bool false, .int .u32 0, .bool false, .int .i64 0, .slice none 0 0]) (cs' := #[.int .i64 T.field, .int .i64 (s.left - 1), .int .i64 T.run, .int .i64 T.level, .int .i64 T.crc, .int .i64 T.acc, .bool T.ext, .int .u32 T.id, .bool T.rtr, .int .i64 T.dlc,(.slice A5 T.data.length c5)]) (T:=31) (u := .agg #[.int .i64 T.field, .int .i64 (s.left - 1), .int .i64 T.run, .int .i64 T.level, .int .i64 T.crc, .int .i64 T.acc, .bool T.ext, .int .u32 T.id, .bool T.rtr, .int .i64 T.dlc,(.slice A5 T.data.length c5)]) (seg := [.int .i64 T.field, .int .i64 (s.left - 1), .int .i64 T.run, .int .i64 T.level, .int .i64 T.crc, .int .i64 T.acc, .bool T.ext, .int .u32 T.id, .bool T.rtr, .int .i64 T.dlc,(.slice A5 T.data.length c5)]) rfl rfl HW11.out.res rfl (by kernel_rfl) rfl rfl rfl ?_;intro wz hx hT;have HX:=Lib.hid hx;have HTZ:=Lib.hid hT;have HBz:=Lib.hid (hT.below HW11.out.below HW11.out.below.size (fun k hk => by omega));clear hx hT)
   refine bodyPost_ret (results_ct rfl _ _ (w.heap.size + 1) 31 #[.int .i64 T.field, .int .i64 (s.left - 1), .int .i64 T.run, .int .i64 T.level, .int .i64 T.crc, .int .i64 T.acc, .bool T.ext, .int .u32 T.id, .bool T.rtr, .int .i64 T.dlc,(.slice A5 T.data.length c5)] (0,0) _ rfl HX.out Tryd.underlying31 rfl (by kernel_rfl)) rfl ?_
   rw [HSTEP.out]
   exact ⟨_,rfl,Kd.R_mono (HTZ.out.R HW11.out.row (fun k hk e => by omega)) (fun _ _ => trivial),HBz.out⟩
end Go.Proofs.YtdoclpgciadjaaaDoor.P

namespace Go.Proofs.YtdoclpgciadjaaaDoor.P
open Go.RowKit Go.Proofs.YtdoclpgciadjaaaDoorW.PrintWords Go.Proofs.YtdoclpgciadjaaaDoorW.PrintLast Go.Proofs.YtdoclpgciadjaaaDoorW.PrintMore
set_option linter.unusedVariables false
set_option linter.unusedSimpArgs false
set_option maxHeartbeats 8000000 in
set_option maxRecDepth 100000 in
theorem spec_quiet_1_1 (w : World) (s : SS) (A : Option Addr) (c : Nat) (hr : Kd.C (Kd.int .u8) w A s.data.length s.data) (hc : s.data.length ≤ c) (hs : Sound s) (i0 : 0 ≤ s.id) (hby : ∀ x ∈ s.data,0 ≤ x ∧ x < 256) (h5 : s.run ≠ 5) (hv : verdictV s 1 = 1) (hlim : s.field = 14 → s.left ≠ 1) (hq : 10 < s.field) :
  Calls Tryd.prog 6 #[.agg #[.int .i64 s.field, .int .i64 s.left, .int .i64 s.run, .int .i64 s.level, .int .i64 s.crc, .int .i64 s.acc, .bool s.ext, .int .u32 s.id, .bool s.rtr, .int .i64 s.dlc,(.slice A s.data.length c)], .int .i64 1] w fun e w' => ∃ v : Value,e = .returned (.tuple #[.agg #[.int .i64 (stepS (takeS (crcT (runS s 1) 1) 1)).field, .int .i64 (stepS (takeS (crcT (runS s 1) 1) 1)).left, .int .i64 (stepS (takeS (crcT (runS s 1) 1) 1)).run, .int .i64 (stepS (takeS (crcT (runS s 1) 1) 1)).level, .int .i64 (stepS (takeS (crcT (runS s 1) 1) 1)).crc, .int .i64 (stepS (takeS (crcT (runS s 1) 1) 1)).acc, .bool (stepS (takeS (crcT (runS s 1) 1) 1)).ext, .int .u32 (stepS (takeS (crcT (runS s 1) 1) 1)).id, .bool (stepS (takeS (crcT (runS s 1) 1) 1)).rtr, .int .i64 (stepS (takeS (crcT (runS s 1) 1) 1)).dlc,v], .int .i64 1]) ∧ Kd.R (Kd.int .u8) 5 w' w.heap.size (fun _ => True) v (stepS (takeS (crcT (runS s 1) 1) 1)).data ∧ Below w.heap.size w w':=by
 have HR:=Lib.hid hr
 have HC:=Lib.hid hc
 clear hr hc
 have HS:=Lib.hid hs
 obtain ⟨K,hcp⟩:=(copySp (s:=s) (by have:=hs.dl;omega)).rounds
 have HCP : Hid (spec_l2copy.f K s.field s.left s.run s.level s.crc s.acc s.ext s.id s.rtr s.dlc s.data = some (s.field,s.left,s.run,s.level,s.crc,s.acc,s.ext,s.id,s.rtr,s.dlc,s.data)):=Lib.hid hcp
 have HSB : Hid (spec_l2sound.f 6 s.field s.left s.run s.level s.crc s.acc s.ext s.id s.rtr s.dlc s.data = some true):=Lib.hid ((soundSp 0 s).trans (by rw [soundB_true hs]))
 have HVB : Hid (spec_l2verdict.f 1 s.field s.left s.run s.level s.crc s.acc s.ext s.id s.rtr s.dlc s.data 1 = some 1):=Lib.hid ((verdictSp 0 s 1).trans (by rw [hv]))
 have b5 : (s.run == 5) = false:=beq_eq_false_iff_ne.mpr h5
 have r0:=hs.r0
 have r1:=hs.r1
 have f0:=hs.f0
 have f1:=hs.f1
 have l0:=hs.l0
 have l1 : s.left ≤ 64:=by have:=(sizeF_le hs.f0 hs.f1 hs.d0).2;have:=hs.l1;omega
 have HE1 : Hid (crcT (runS s 1) 1 = ({ s with run:=0,level:=0 } : SS)):=Lib.hid (by rw [show runS s 1 = ({ s with run:=0,level:=0 } : SS) by unfold runS;rw [if_pos hq]];unfold crcT;rw [if_neg (show ¬ s.field ≤ 9 by omega)])
 have HOK : Hid (SOk ({ s with run:=0,level:=0 } : SS)):=Lib.hid (by have h:=hs.ok i0 hby;exact ⟨h.f0,h.f1,h.l0,h.l1,h.d0,h.d1,h.i0,h.i1,h.a0,h.a1,h.ne,h.by_,h.dl⟩)
 have HTK : Hid ((takeS ({ s with run:=0,level:=0 } : SS) 1).field = s.field ∧ (takeS ({ s with run:=0,level:=0 } : SS) 1).left = s.left):=Lib.hid (takeS_keep _ _)
 have HTD : Hid (0 ≤ (takeS ({ s with run:=0,level:=0 } : SS) 1).dlc ∧ (takeS ({ s with run:=0,level:=0 } : SS) 1).dlc ≤ 15):=Lib.hid (takeS_dlc (s := { s with run:=0,level:=0 }) hs.d0 hs.d1 _)
 have HAC : Hid ((takeS ({ s with run:=0,level:=0 } : SS) 1).acc = s.acc):=Lib.hid (by rw [takeS_acc (s := { s with run:=0,level:=0 }) hs.a0 hs.a1 _ (by omega),if_neg (show ¬ s.field = 10 by omega)])
 have HTF:=Lib.hid (takeS_frame ({ s with run:=0,level:=0 } : SS) 1)
 have HSZ0 : Hid (spec_l2size.f s.field s.ext s.id s.rtr s.dlc s.data = some (sizeF s)):=Lib.hid (specSize hs.f0 hs.f1 hs.d0 hs.d1)
 have HSZR : Hid (0 ≤ sizeF s - s.left ∧ sizeF s ≤ 64 ∧ (s.field = 9 → ((sizeF s - s.left) % 8 = 0 ↔ s.left % 8 = 0))):=Lib.hid ⟨by have:=hs.l1;omega,(sizeF_le hs.f0 hs.f1 hs.d0).2,fun h => by have : sizeF s = 8 * (if s.dlc < 8 then s.dlc else 8):=(by unfold sizeF;rw [if_neg (by omega),if_pos h]);rw [this];split <;> omega⟩
 have HLIM:=Lib.hid hlim
 have bten : (s.field == 10) = false:=beq_eq_false_iff_ne.mpr (by omega)
 clear hs i0 hby h5 hv hlim
 rw [HE1.out]
 generalize hTT : takeS ({ s with run:=0,level:=0 } : SS) 1 = T at HTK HTD HAC HTF ⊢
 have HTT:=Lib.hid hTT
 clear hTT
 have HTF2 : Hid (T = { ({ s with run:=0,level:=0 } : SS) with ext:=T.ext,id:=T.id,rtr:=T.rtr,dlc:=T.dlc,data:=T.data }):=Lib.hid (by have h:=HTF.out;rw [HAC.out] at h;exact h)
 generalize hZ : sizeF s = SZ0 at HSZ0 HSZR
 have z0:=HSZR.out.1
 have z1:=HSZR.out.2.1
 clear hZ
 clear hcp
 go_enter Tryd.func6,Tryd.ntmps6
 go_wp2_with (fail)
 (refine (spec_l2sound.calls 6 s.field s.left s.run s.level s.crc s.acc s.ext s.id s.rtr s.dlc A c s.data true _ (Kd.C_alloc (Kd.C_alloc HR.out _) _) HC.out HSB.out).mono ?_;rintro e w1 ⟨rfl,hb1⟩;have HW1:=Lib.hid ((SbIn.start w s (.slice A s.data.length c)).step hb1);clear hb1)
 obtain ⟨hx0,hx1,hx2,hx3,hx4,hx5,hx6,hx7,hx8,hx9,hx10⟩:=cSall HW1.out.box
 go_wp2_with (fail)
 clear hx0 hx1 hx2 hx3 hx4 hx5 hx6 hx7 hx8 hx9 hx10
 (refine (spec_l2copy.calls K s.field s.left s.run s.level s.crc s.acc s.ext s.id s.rtr s.dlc A c s.data s.field s.left s.run s.level s.crc s.acc s.ext s.id s.rtr s.dlc s.data _ (Kd.C_below HR.out HW1.out.below) HC.out HCP.out).mono ?_;rintro e w2 ⟨v2,rfl,hr2,hb2⟩;obtain ⟨A2,c2,rfl⟩:=Kd.R_slice hr2;have HW3:=Lib.hid (SpO.start HW1.out hb2 hr2);have hne0 : w.heap.size ≠ w2.heap.size:=(by have:=HW3.out.gg;omega);have hne1 : w2.heap.size ≠ w.heap.size:=(by omega);have hne2 : w.heap.size + 1 ≠ w2.heap.size:=(by have:=HW3.out.gg;omega);have hne3 : w2.heap.size ≠ w.heap.size + 1:=(by omega);have HB2:=Lib.hid hb2;have HR2:=Lib.hid hr2;clear hr2 hb2)
 have hx:=cSall HW3.out.box
 unfold objS cellsS at hx
 obtain ⟨hx0,hx1,hx2,hx3,hx4,hx5,hx6,hx7,hx8,hx9,hx10⟩:=hx
 go_wp2_with (fail)
 (refine (spec_l2verdict.calls 1 s.field s.left s.run s.level s.crc s.acc s.ext s.id s.rtr s.dlc A c s.data 1 1 _ (Kd.C_below HR.out HW3.out.below) HC.out HVB.out).mono ?_;rintro e w4 ⟨rfl,hb4⟩;have HW4:=Lib.hid (HW3.out.step hb4);clear hb4;clear hx0 hx1 hx2 hx3 hx4 hx5 hx6 hx7 hx8 hx9 hx10)
 obtain ⟨hx0,hx1,hx2,hx3,hx4,hx5,hx6,hx7,hx8,hx9,hx10⟩:=cSall HW4.out.box
 obtain ⟨hg0,hg1,hg2,hg3,hg4,hg5,hg6,hg7,hg8,hg9,hg10⟩:=cSall HW4.out.loc
 obtain ⟨hk0,hk1,hk2,hk3,hk4,hk5,hk6,hk7,hk8,hk9,hk10⟩:=fSall HW4.out.loc
 have HW7 : Hid (SpO w _ s _ _ ({ s with run:=0,level:=0 } : SS) _):=Lib.hid ((HW4.out.put (setS2 HW4.out.loc (0)) rfl).put (setS3 (setS2 HW4.out.loc (0)) (0)) rfl)
 go_wp2_with (fail)
 clear hx0 hg0 hk0 hx1 hg1 hk1 hx2 hg2 hk2 hx3 hg3 hk3 hx4 hg4 hk4 hx5 hg5 hk5 hx6 hg6 hk6 hx7 hg7 hk7 hx8 hg8 hk8 hx9 hg9 hk9 hx10 hg10 hk10
 generalize hW7 : ((w4.setCell ⟨w2.heap.size,2,none⟩ (.int .i64 (0))).setCell ⟨w2.heap.size,3,none⟩ (.int .i64 (0))) = w7 at HW7 ⊢
 clear hW7
 have HW7d:=Lib.hid (HW7.out.step (below_drew (Below.refl _ _)))
 obtain ⟨hx0,hx1,hx2,hx3,hx4,hx5,hx6,hx7,hx8,hx9,hx10⟩:=cSall HW7.out.box
 obtain ⟨hg0,hg1,hg2,hg3,hg4,hg5,hg6,hg7,hg8,hg9,hg10⟩:=cSall HW7.out.loc
 obtain ⟨hk0,hk1,hk2,hk3,hk4,hk5,hk6,hk7,hk8,hk9,hk10⟩:=fSall HW7.out.loc
 have hwz : IntKind.i64.wrap (SZ0 - s.left) = SZ0 - s.left:=by rw [IntKind.wrap_i64];omega
 have HH : Hid (∀ w' : World,w'.heap[w.heap.size]? = some (objS s (.slice A s.data.length c)) → ((w'.cell? ⟨w.heap.size,0,none⟩ = some (.int .i64 s.field)) ∧ (w'.cell? ⟨w.heap.size,1,none⟩ = some (.int .i64 s.left)) ∧ (w'.cell? ⟨w.heap.size,6,none⟩ = some (.bool s.ext)) ∧ (w'.cell? ⟨w.heap.size,7,none⟩ = some (.int .u32 s.id)) ∧ (w'.cell? ⟨w.heap.size,8,none⟩ = some (.bool s.rtr)) ∧ (w'.cell? ⟨w.heap.size,9,none⟩ = some (.int .i64 s.dlc)) ∧ (w'.cell? ⟨w.heap.size,10,none⟩ = some (.slice A s.data.length c)))):=Lib.hid (fun w' h => ⟨cS0 h,cS1 h,cS6 h,cS7 h,cS8 h,cS9 h,cS10 h⟩)
 refine wp_region_noPanic ?_
 refine wp_region_held_drew (S:=fun w' => (w'.cell? ⟨w.heap.size,0,none⟩ = some (.int .i64 s.field)) ∧ (w'.cell? ⟨w.heap.size,1,none⟩ = some (.int .i64 s.left)) ∧ (w'.cell? ⟨w.heap.size,6,none⟩ = some (.bool s.ext)) ∧ (w'.cell? ⟨w.heap.size,7,none⟩ = some (.int .u32 s.id)) ∧ (w'.cell? ⟨w.heap.size,8,none⟩ = some (.bool s.rtr)) ∧ (w'.cell? ⟨w.heap.size,9,none⟩ = some (.int .i64 s.dlc)) ∧ (w'.cell? ⟨w.heap.size,10,none⟩ = some (.slice A s.data.length c))) (by kernel_rfl) (HH.out _ HW7d.out.box) (fun hH0 => ?_)
 refine wpAnyH_take (i:=0) (v := .pointer (some ⟨w2.heap.size,6,none⟩)) rfl (by kernel_rfl) (by kernel_rfl) (by kernel_rfl) (fun _ _ _ h => h) (Or.inl ⟨by rfl, ?hy1⟩) (by assumption) ?_
 case hy1 => (intro wq hSw;(try dsimp only at hSw);go_simp;try (with_reducible rfl))
 refine wpAnyH_take (i:=2) (v := .pointer (some ⟨w.heap.size,0,none⟩)) rfl (by kernel_rfl) (by kernel_rfl) (by kernel_rfl) (fun _ _ _ h => h) (Or.inl ⟨by rfl, ?hy2⟩) (by assumption) ?_
 case hy2 => (intro wq hSw;(try dsimp only at hSw);go_simp;try (with_reducible rfl))
 refine wpAnyH_take (i:=3) (v := .int .i64 s.field) rfl (by kernel_rfl) (by kernel_rfl) (by kernel_rfl) (fun _ _ _ h => h) (Or.inl ⟨by rfl, ?hy3⟩) (by assumption) ?_
 case hy3 => (intro wq hSw;(try dsimp only at hSw);go_simp;try (with_reducible rfl))
 refine wpAnyH_take (i:=4) (v := .pointer (some ⟨w.heap.size,0,none⟩)) rfl (by kernel_rfl) (by kernel_rfl) (by kernel_rfl) (fun _ _ _ h => h) (Or.inl ⟨by rfl, ?hy4⟩) (by assumption) ?_
 case hy4 => (intro wq hSw;(try dsimp only at hSw);go_simp;try (with_reducible rfl))
 refine wpAnyH_take (i:=5) (v := .int .i64 s.field) rfl (by kernel_rfl) (by kernel_rfl) (by kernel_rfl) (fun _ _ _ h => h) (Or.inl ⟨by rfl, ?hy5⟩) (by assumption) ?_
 case hy5 => (intro wq hSw;(try dsimp only at hSw);go_simp;try (with_reducible rfl))
 refine wpAnyH_take (i:=6) (v := .pointer (some ⟨w.heap.size,6,none⟩)) rfl (by kernel_rfl) (by kernel_rfl) (by kernel_rfl) (fun _ _ _ h => h) (Or.inl ⟨by rfl, ?hy6⟩) (by assumption) ?_
 case hy6 => (intro wq hSw;(try dsimp only at hSw);go_simp;try (with_reducible rfl))
 refine wpAnyH_take (i:=7) (v := .agg #[.bool s.ext, .int .u32 s.id, .bool s.rtr, .int .i64 s.dlc,(.slice A s.data.length c)]) rfl (by kernel_rfl) (by kernel_rfl) (by kernel_rfl) (fun _ _ _ h => h) (Or.inl ⟨by rfl, ?hy7⟩) (by assumption) ?_
 case hy7 => (intro wq hSw;(try dsimp only at hSw);go_simp;try (with_reducible rfl))
 refine wpAnyH_take (i:=9) (v := .pointer (some ⟨w.heap.size,1,none⟩)) rfl (by kernel_rfl) (by kernel_rfl) (by kernel_rfl) (fun _ _ _ h => h) (Or.inl ⟨by rfl, ?hy8⟩) (by assumption) ?_
 case hy8 => (intro wq hSw;(try dsimp only at hSw);go_simp;try (with_reducible rfl))
 refine wpAnyH_take (i:=10) (v := .int .i64 s.left) rfl (by kernel_rfl) (by kernel_rfl) (by kernel_rfl) (fun _ _ _ h => h) (Or.inl ⟨by rfl, ?hy9⟩) (by assumption) ?_
 case hy9 => (intro wq hSw;(try dsimp only at hSw);go_simp;try (with_reducible rfl))
 refine wpAnyH_take (i:=12) (v := .int .i64 1) rfl (by kernel_rfl) (by kernel_rfl) (by kernel_rfl) (fun _ _ _ h => h) (Or.inl ⟨by rfl, ?hy10⟩) (by assumption) ?_
 case hy10 => (intro wq hSw;(try dsimp only at hSw);go_simp;try (with_reducible rfl))
 refine wpAnyH_ready (rs := [1,8]) (by kernel_rfl) (by simp) ?_
 refine AllReadyH.cons rfl (fun K hK => ?wa) (AllReadyH.cons rfl (fun K hK => ?wb) AllReadyH.nil)
 case' wa =>
  go_simp
  refine hK.out _ _ (HH.out _ HW7d.out.box) (fun hH1 => ?_)
  clear hK K
  refine wpAnyH_ready (rs := [8]) (by kernel_rfl) (by simp) ?_
  refine AllReadyH.cons rfl (fun K hK => ?_) AllReadyH.nil
  go_simp
  go_wp2_with (first | (go_at_call 24;refine (spec_l2size.calls s.field s.ext s.id s.rtr s.dlc A c s.data SZ0 _ (Kd.C_below HR.out HW7d.out.below) HC.out HSZ0.out).mono ?_;rintro e w8 ⟨rfl,hb8⟩;have HW8:=Lib.hid (HW7d.out.step hb8);clear hb8;clear hx0 hg0 hk0 hx1 hg1 hk1 hx2 hg2 hk2 hx3 hg3 hk3 hx4 hg4 hk4 hx5 hg5 hk5 hx6 hg6 hk6 hx7 hg7 hk7 hx8 hg8 hk8 hx9 hg9 hk9 hx10 hg10 hk10;obtain ⟨hx0,hx1,hx2,hx3,hx4,hx5,hx6,hx7,hx8,hx9,hx10⟩:=cSall HW8.out.box;obtain ⟨hg0,hg1,hg2,hg3,hg4,hg5,hg6,hg7,hg8,hg9,hg10⟩:=cSall HW8.out.loc;obtain ⟨hk0,hk1,hk2,hk3,hk4,hk5,hk6,hk7,hk8,hk9,hk10⟩:=fSall HW8.out.loc))
  refine hK.out _ _ (HH.out _ HW8.out.box) (fun hH2 => ?_)
  clear hK K
  refine wpAnyH_take (i:=11) (v := .int .i64 (SZ0 - s.left)) rfl (by kernel_rfl) (by kernel_rfl) (by kernel_rfl) (fun _ _ _ h => h) (Or.inl ⟨by rfl, ?hy11⟩) (by assumption) ?_
  case hy11 => (intro wq hSw;(try dsimp only at hSw);go_simp;try (with_reducible rfl))
 case' wb =>
  go_simp
  go_wp2_with (first | (go_at_call 24;refine (spec_l2size.calls s.field s.ext s.id s.rtr s.dlc A c s.data SZ0 _ (Kd.C_below HR.out HW7d.out.below) HC.out HSZ0.out).mono ?_;rintro e w8 ⟨rfl,hb8⟩;have HW8:=Lib.hid (HW7d.out.step hb8);clear hb8;clear hx0 hg0 hk0 hx1 hg1 hk1 hx2 hg2 hk2 hx3 hg3 hk3 hx4 hg4 hk4 hx5 hg5 hk5 hx6 hg6 hk6 hx7 hg7 hk7 hx8 hg8 hk8 hx9 hg9 hk9 hx10 hg10 hk10;obtain ⟨hx0,hx1,hx2,hx3,hx4,hx5,hx6,hx7,hx8,hx9,hx10⟩:=cSall HW8.out.box;obtain ⟨hg0,hg1,hg2,hg3,hg4,hg5,hg6,hg7,hg8,hg9,hg10⟩:=cSall HW8.out.loc;obtain ⟨hk0,hk1,hk2,hk3,hk4,hk5,hk6,hk7,hk8,hk9,hk10⟩:=fSall HW8.out.loc))
  refine hK.out _ _ (HH.out _ HW8.out.box) (fun hH2 => ?_)
  clear hK K
  refine wpAnyH_take (i:=11) (v := .int .i64 (SZ0 - s.left)) rfl (by kernel_rfl) (by kernel_rfl) (by kernel_rfl) (fun _ _ _ h => h) (Or.inl ⟨by rfl, ?hy12⟩) (by assumption) ?_
  case hy12 => (intro wq hSw;(try dsimp only at hSw);go_simp;try (with_reducible rfl))
  refine wpAnyH_ready (rs := [1]) (by kernel_rfl) (by simp) ?_
  refine AllReadyH.cons rfl (fun K hK => ?_) AllReadyH.nil
  go_simp
  refine hK.out _ _ (HH.out _ HW8.out.box) (fun hH1 => ?_)
  clear hK K
 all_goals
  refine wpAnyH_ready (rs := [13]) (by kernel_rfl) (by simp) ?_
  refine AllReadyH.cons rfl (fun K hK => ?_) AllReadyH.nil
  go_simp
  go_wp2_with (first | (go_at_call 23;refine (spec_l2take.at_ w _ ({ s with run:=0,level:=0 } : SS) A2 c2 (SZ0 - s.left) (fun k => w.heap.size + 1 < k ∧ k ≠ w2.heap.size) HW8.out.row HW8.out.below HW8.out.frame HOK.out 1 (Or.inr rfl) HSZR.out.1 HSZR.out.2.2).mono ?_;rw [HTT.out];rintro e w9 ⟨v9,rfl,hr9,ht9⟩;obtain ⟨A5,c5,rfl⟩:=Kd.R_slice hr9;have HW10:=Lib.hid (SpO.took HW8.out hr9 ht9 HTF2.out);have hbx:=(ht9.block (by have:=HW8.out.lt;omega) (by rintro ⟨e,_⟩;omega)).trans HW8.out.box;have hlx:=(ht9.block HW8.out.glt (by rintro ⟨_,e⟩;exact e rfl)).trans HW8.out.loc;clear hx0 hg0 hk0 hx1 hg1 hk1 hx2 hg2 hk2 hx3 hg3 hk3 hx4 hg4 hk4 hx5 hg5 hk5 hx6 hg6 hk6 hx7 hg7 hk7 hx8 hg8 hk8 hx9 hg9 hk9 hx10 hg10 hk10;obtain ⟨hx0,hx1,hx2,hx3,hx4,hx5,hx6,hx7,hx8,hx9,hx10⟩:=cSall hbx;obtain ⟨hg0,hg1,hg2,hg3,hg4,hg5,hg6,hg7,hg8,hg9,hg10⟩:=cSall hlx;obtain ⟨hk0,hk1,hk2,hk3,hk4,hk5,hk6,hk7,hk8,hk9,hk10⟩:=fSall hlx;have HBX:=Lib.hid hbx;have HLX:=Lib.hid hlx;clear hr9 ht9 hbx hlx))
  refine hK.out _ _ (HH.out _ HBX.out) (fun hH4 => ?_)
  clear hK K
  refine wpAnyH_take (i:=14) (v := .pointer (some ⟨w2.heap.size,6,none⟩)) rfl (by kernel_rfl) (by kernel_rfl) (by kernel_rfl) (fun _ _ _ h => h) (Or.inl ⟨by rfl, ?hy13⟩) (by assumption) ?_
  case hy13 => (intro wq hSw;(try dsimp only at hSw);go_simp;try (with_reducible rfl))
  refine wpAnyH_ready (rs := [15]) (by kernel_rfl) (by simp) ?_
  refine AllReadyH.cons rfl (fun K hK => ?_) AllReadyH.nil
  go_simp
  refine hK.out _ _ (HH.out _ HW10.out.box) (fun hH5 => ?_)
  clear hK K
  refine wpAnyH_done (by kernel_rfl) ?_ _
  refine NoPanic.normal ?_
  clear hH0 hH1 hH2 hH4 hH5
  clear hx0 hg0 hk0 hx1 hg1 hk1 hx2 hg2 hk2 hx3 hg3 hk3 hx4 hg4 hk4 hx5 hg5 hk5 hx6 hg6 hk6 hx7 hg7 hk7 hx8 hg8 hk8 hx9 hg9 hk9 hx10 hg10 hk10
  generalize hW10 : ((((w9.setCell ⟨w2.heap.size,6,none⟩ (.bool T.ext)).setCell ⟨w2.heap.size,7,none⟩ (.int .u32 T.id)).setCell ⟨w2.heap.size,8,none⟩ (.bool T.rtr)).setCell ⟨w2.heap.size,9,none⟩ (.int .i64 T.dlc)).setCell ⟨w2.heap.size,10,none⟩ (.slice A5 T.data.length c5) = w10 at HW10 ⊢
  clear hW10 HB2 HR2 HW1 HW3 HW4 HBX HLX HW7 HW7d HW8 HCP HSB HVB HTF HTF2 HSZ0 HSZR HE1 HOK HAC HTT
  clear hwz
  obtain ⟨hx0,hx1,hx2,hx3,hx4,hx5,hx6,hx7,hx8,hx9,hx10⟩:=cSall HW10.out.box
  obtain ⟨hg0,hg1,hg2,hg3,hg4,hg5,hg6,hg7,hg8,hg9,hg10⟩:=cSall HW10.out.loc
  obtain ⟨hk0,hk1,hk2,hk3,hk4,hk5,hk6,hk7,hk8,hk9,hk10⟩:=fSall HW10.out.loc
  have HFT : Hid (1 ≤ T.field ∧ T.field ≤ 14 ∧ (T.field = 14 → s.left ≠ 1)):=Lib.hid (by have h:=HTK.out.1;have h2:=HLIM.out;exact ⟨by omega,by omega,by rw [h];exact h2⟩)
  have HW11:=Lib.hid (HW10.out.put (setS1 HW10.out.loc (s.left - 1)) rfl)
  by_cases hL : s.left - 1 = 0
  ·have bL : (s.left - 1 == 0) = true:=beq_iff_eq.mpr hL
   have HSTEP : Hid (stepS T = enterS T (afterF T)):=Lib.hid (by unfold stepS;rw [HTK.out.2,if_pos hL])
   have HAR : Hid (1 ≤ afterF T ∧ afterF T ≤ 14):=Lib.hid (by have h2:=HFT.out;exact afterF_range (by omega) (by omega))
   have HAI : Hid (spec_l2after.f 1 s.field T.ext T.id T.rtr T.dlc T.data = some (afterF T)):=Lib.hid (by have h:=afterSp 0 (s:=T) HFT.out.1 HFT.out.2.1;rw [HTK.out.1] at h;exact h)
   have HSI : Hid (spec_l2size.f (afterF T) T.ext T.id T.rtr T.dlc T.data = some (sizeF { T with field:=afterF T })):=Lib.hid (specSize (s := { T with field:=afterF T }) HAR.out.1 HAR.out.2 HTD.out.1 HTD.out.2)
   generalize afterF T = AF at HSTEP HAR HAI HSI
   clear hL
   go_wp2_with (fail)
   (refine (spec_l2after.calls 1 s.field T.ext T.id T.rtr T.dlc A5 c5 T.data AF _ (Kd.R_reads' HW11.out.row).2.2 (Kd.R_reads' HW11.out.row).2.1 HAI.out).mono ?_;rintro e w12 ⟨rfl,hb12⟩;have HW12:=Lib.hid (HW11.out.step hb12);clear hb12;clear hx0 hg0 hk0 hx1 hg1 hk1 hx2 hg2 hk2 hx3 hg3 hk3 hx4 hg4 hk4 hx5 hg5 hk5 hx6 hg6 hk6 hx7 hg7 hk7 hx8 hg8 hk8 hx9 hg9 hk9 hx10 hg10 hk10;obtain ⟨hx0,hx1,hx2,hx3,hx4,hx5,hx6,hx7,hx8,hx9,hx10⟩:=cSall HW12.out.box;obtain ⟨hg0,hg1,hg2,hg3,hg4,hg5,hg6,hg7,hg8,hg9,hg10⟩:=cSall HW12.out.loc;obtain ⟨hk0,hk1,hk2,hk3,hk4,hk5,hk6,hk7,hk8,hk9,hk10⟩:=fSall HW12.out.loc)
   have HW13:=Lib.hid (HW12.out.put (setS0 HW12.out.loc AF) rfl)
   go_wp2_with (fail)
   (refine (spec_l2size.calls AF T.ext T.id T.rtr T.dlc A5 c5 T.data _ _ (Kd.R_reads' HW13.out.row).2.2 (Kd.R_reads' HW13.out.row).2.1 HSI.out).mono ?_;rintro e w14 ⟨rfl,hb14⟩;have HW14:=Lib.hid (HW13.out.step hb14);clear hb14;clear hx0 hg0 hk0 hx1 hg1 hk1 hx2 hg2 hk2 hx3 hg3 hk3 hx4 hg4 hk4 hx5 hg5 hk5 hx6 hg6 hk6 hx7 hg7 hk7 hx8 hg8 hk8 hx9 hg9 hk9 hx10 hg10 hk10;obtain ⟨hx0,hx1,hx2,hx3,hx4,hx5,hx6,hx7,hx8,hx9,hx10⟩:=cSall HW14.out.box;obtain ⟨hg0,hg1,hg2,hg3,hg4,hg5,hg6,hg7,hg8,hg9,hg10⟩:=cSall HW14.out.loc;obtain ⟨hk0,hk1,hk2,hk3,hk4,hk5,hk6,hk7,hk8,hk9,hk10⟩:=fSall HW14.out.loc)
   generalize hSZ : sizeF { T with field:=AF } = SZ at HSI ⊢
   have HSZ:=Lib.hid hSZ
   clear hSZ
   have HW15:=Lib.hid (HW14.out.put (setS1 HW14.out.loc SZ) rfl)
   by_cases h9 : AF = 9
   ·have b9 : (AF == 9) = true:=beq_iff_eq.mpr h9
    have HH9:=Lib.hid h9
    clear h9
    have hns:=HW15.out.nil
    have hsz15 : (w14.setCell ⟨w2.heap.size,1,none⟩ (.int .i64 SZ)).heap.size = w14.heap.size:=by simp [World.setCell]
    rw [hsz15] at hns
    have HW16:=Lib.hid hns
    clear hns hsz15
    obtain ⟨hh0,hh1,hh2,hh3,hh4,hh5,hh6,hh7,hh8,hh9,hh10⟩:=cSall (blk_alloc HW15.out.loc (.cells #[] 5))
    have hhf:=fS (blk_alloc HW15.out.loc (.cells #[] 5)) 10
    go_wp2_with ((with_reducible refine gate_store (t:=31) (p:=4) rfl ?_);refine store_box rfl rfl rfl (g:=w.heap.size + 1) (j:=0) (cs := #[.int .i64 0, .int .i64 0, .int .i64 0, .int .i64 0, .int .i64 0, .int .i64 0, .bool false, .int .u32 0, .bool false, .int .i64 0, .slice none 0 0]) (cs' := #[.int .i64 AF, .int .i64 SZ, .int .i64 T.run, .int .i64 T.level, .int .i64 T.crc, .int .i64 T.acc, .bool T.ext, .int .u32 T.id, .bool T.rtr, .int .i64 T.dlc,(.slice (some ⟨w14.heap.size,0,none⟩) 0 0)]) (T:=31) (u := .agg #[.int .i64 AF, .int .i64 SZ, .int .i64 T.run, .int .i64 T.level, .int .i64 T.crc, .int .i64 T.acc, .bool T.ext, .int .u32 T.id, .bool T.rtr, .int .i64 T.dlc,(.slice (some ⟨w14.heap.size,0,none⟩) 0 0)]) (seg := [.int .i64 AF, .int .i64 SZ, .int .i64 T.run, .int .i64 T.level, .int .i64 T.crc, .int .i64 T.acc, .bool T.ext, .int .u32 T.id, .bool T.rtr, .int .i64 T.dlc,(.slice (some ⟨w14.heap.size,0,none⟩) 0 0)]) rfl rfl HW16.out.res rfl (by kernel_rfl) rfl rfl rfl ?_;intro wz hx hT;have HX:=Lib.hid hx;have HTZ:=Lib.hid hT;have HBz:=Lib.hid (hT.below HW16.out.below HW16.out.below.size (fun k hk => by omega));clear hx hT)
    refine bodyPost_ret (results_ct rfl _ _ (w.heap.size + 1) 31 #[.int .i64 AF, .int .i64 SZ, .int .i64 T.run, .int .i64 T.level, .int .i64 T.crc, .int .i64 T.acc, .bool T.ext, .int .u32 T.id, .bool T.rtr, .int .i64 T.dlc,(.slice (some ⟨w14.heap.size,0,none⟩) 0 0)] (0,0) _ rfl HX.out Tryd.underlying31 rfl (by kernel_rfl)) rfl ?_
    rw [HSTEP.out,show enterS T AF = { T with field:=AF,left:=SZ,data := [] } by unfold enterS;rw [if_pos HH9.out,HSZ.out]]
    exact ⟨_,rfl,Kd.R_mono (HTZ.out.R HW16.out.row (fun k hk e => by omega)) (fun _ _ => trivial),HBz.out⟩
   ·have b9 : (AF == 9) = false:=beq_eq_false_iff_ne.mpr h9
    have HH9:=Lib.hid h9
    clear h9
    go_wp2_with ((with_reducible refine gate_store (t:=31) (p:=4) rfl ?_);refine store_box rfl rfl rfl (g:=w.heap.size + 1) (j:=0) (cs := #[.int .i64 0, .int .i64 0, .int .i64 0, .int .i64 0, .int .i64 0, .int .i64 0, .bool false, .int .u32 0, .bool false, .int .i64 0, .slice none 0 0]) (cs' := #[.int .i64 AF, .int .i64 SZ, .int .i64 T.run, .int .i64 T.level, .int .i64 T.crc, .int .i64 T.acc, .bool T.ext, .int .u32 T.id, .bool T.rtr, .int .i64 T.dlc,(.slice A5 T.data.length c5)]) (T:=31) (u := .agg #[.int .i64 AF, .int .i64 SZ, .int .i64 T.run, .int .i64 T.level, .int .i64 T.crc, .int .i64 T.acc, .bool T.ext, .int .u32 T.id, .bool T.rtr, .int .i64 T.dlc,(.slice A5 T.data.length c5)]) (seg := [.int .i64 AF, .int .i64 SZ, .int .i64 T.run, .int .i64 T.level, .int .i64 T.crc, .int .i64 T.acc, .bool T.ext, .int .u32 T.id, .bool T.rtr, .int .i64 T.dlc,(.slice A5 T.data.length c5)]) rfl rfl HW15.out.res rfl (by kernel_rfl) rfl rfl rfl ?_;intro wz hx hT;have HX:=Lib.hid hx;have HTZ:=Lib.hid hT;have HBz:=Lib.hid (hT.below HW15.out.below HW15.out.below.size (fun k hk => by omega));clear hx hT)
    refine bodyPost_ret (results_ct rfl _ _ (w.heap.size + 1) 31 #[.int .i64 AF, .int .i64 SZ, .int .i64 T.run, .int .i64 T.level, .int .i64 T.crc, .int .i64 T.acc, .bool T.ext, .int .u32 T.id, .bool T.rtr, .int .i64 T.dlc,(.slice A5 T.data.length c5)] (0,0) _ rfl HX.out Tryd.underlying31 rfl (by kernel_rfl)) rfl ?_
    rw [HSTEP.out,show enterS T AF = { T with field:=AF,left:=SZ } by unfold enterS;rw [if_neg HH9.out,HSZ.out]]
    exact ⟨_,rfl,Kd.R_mono (HTZ.out.R HW15.out.row (fun k hk e => by omega)) (fun _ _ => trivial),HBz.out⟩
  ·have bL : (s.left - 1 == 0) = false:=beq_eq_false_iff_ne.mpr hL
   have HSTEP : Hid (stepS T = { T with left:=s.left - 1 }):=Lib.hid (by unfold stepS;rw [HTK.out.2,if_neg hL])
   clear hL
   go_wp2_with ((with_reducible refine gate_store (t:=31) (p:=4) rfl ?_);refine store_box rfl rfl rfl (g:=w.heap.size + 1) (j:=0) (cs := #[.int .i64 0, .int .i64 0, .int .i64 0, .int .i64 0, .int .i64 0, .int .i64 0, .bool false, .int .u32 0, .bool false, .int .i64 0, .slice none 0 0]) (cs' := #[.int .i64 T.field, .int .i64 (s.left - 1), .int .i64 T.run, .int .i64 T.level, .int .i64 T.crc, .int .i64 T.acc, .bool T.ext, .int .u32 T.id, .bool T.rtr, .int .i64 T.dlc,(.slice A5 T.data.length c5)]) (T:=31) (u := .agg #[.int .i64 T.field, .int .i64 (s.left - 1), .int .i64 T.run, .int .i64 T.level, .int .i64 T.crc, .int .i64 T.acc, .bool T.ext, .int .u32 T.id, .bool T.rtr, .int .i64 T.dlc,(.slice A5 T.data.length c5)]) (seg := [.int .i64 T.field, .int .i64 (s.left - 1), .int .i64 T.run, .int .i64 T.level, .int .i64 T.crc, .int .i64 T.acc, .bool T.ext, .int .u32 T.id, .bool T.rtr, .int .i64 T.dlc,(.slice A5 T.data.length c5)]) rfl rfl HW11.out.res rfl (by kernel_rfl) rfl rfl rfl ?_;intro wz hx hT;have HX:=Lib.hid hx;have HTZ:=Lib.hid hT;have HBz:=Lib.hid (hT.below HW11.out.below HW11.out.below.size (fun k hk => by omega));clear hx hT)
   refine bodyPost_ret (results_ct rfl _ _ (w.heap.size + 1) 31 #[.int .i64 T.field, .int .i64 (s.left - 1), .int .i64 T.run, .int .i64 T.level, .int .i64 T.crc, .int .i64 T.acc, .bool T.ext, .int .u32 T.id, .bool T.rtr, .int .i64 T.dlc,(.slice A5 T.data.length c5)] (0,0) _ rfl HX.out Tryd.underlying31 rfl (by kernel_rfl)) rfl ?_
   rw [HSTEP.out]
   exact ⟨_,rfl,Kd.R_mono (HTZ.out.R HW11.out.row (fun k hk e => by omega)) (fun _ _ => trivial),HBz.out⟩
end Go.Proofs.YtdoclpgciadjaaaDoor.P

namespace Go.Proofs.YtdoclpgciadjaaaDoor.P
open Go.RowKit Go.Proofs.YtdoclpgciadjaaaDoorW.PrintWords Go.Proofs.YtdoclpgciadjaaaDoorW.PrintLast Go.Proofs.YtdoclpgciadjaaaDoorW.PrintMore
set_option linter.unusedVariables false
set_option linter.unusedSimpArgs false
theorem spec_all (w : World) (s : SS) (A : Option Addr) (c : Nat) (hr : Kd.C (Kd.int .u8) w A s.data.length s.data) (hc : s.data.length ≤ c) (b : Int) (hid : 0 ≤ s.id) (hby : ∀ x ∈ s.data,0 ≤ x ∧ x < 256) :
  Calls Tryd.prog 6 #[.agg #[.int .i64 s.field, .int .i64 s.left, .int .i64 s.run, .int .i64 s.level, .int .i64 s.crc, .int .i64 s.acc, .bool s.ext, .int .u32 s.id, .bool s.rtr, .int .i64 s.dlc,(.slice A s.data.length c)], .int .i64 b] w fun e w' => ∃ v : Value,e = .returned (.tuple #[.agg #[.int .i64 (scanV s b).1.field, .int .i64 (scanV s b).1.left, .int .i64 (scanV s b).1.run, .int .i64 (scanV s b).1.level, .int .i64 (scanV s b).1.crc, .int .i64 (scanV s b).1.acc, .bool (scanV s b).1.ext, .int .u32 (scanV s b).1.id, .bool (scanV s b).1.rtr, .int .i64 (scanV s b).1.dlc,v], .int .i64 (scanV s b).2]) ∧ Kd.R (Kd.int .u8) 5 w' w.heap.size (fun _ => True) v (scanV s b).1.data ∧ Below w.heap.size w w':=by
 by_cases hsb : Sound s ∧ (b = 0 ∨ b = 1)
 ·obtain ⟨hs,hb⟩:=hsb
  by_cases h5 : s.run = 5
  ·by_cases hl : b = s.level
   ·rw [show scanV s b = (zeroS,3) by unfold scanV;rw [if_pos ⟨hs,hb⟩,if_pos h5,if_pos hl]]
    rcases hb with rfl | rfl
    ·refine (spec_stuff_0 w s A c hr hc hs h5 hl).mono ?_
     rintro e w' ⟨rfl,h⟩
     exact ⟨_,rfl,Kd.R_nil _ _ _ _ _,h⟩
    ·refine (spec_stuff_1 w s A c hr hc hs h5 hl).mono ?_
     rintro e w' ⟨rfl,h⟩
     exact ⟨_,rfl,Kd.R_nil _ _ _ _ _,h⟩
   ·rw [show scanV s b = ({ s with run:=1,level:=b },0) by unfold scanV;rw [if_pos ⟨hs,hb⟩,if_pos h5,if_neg hl]]
    rcases hb with rfl | rfl
    ·exact spec_skip_0 w s A c hr hc hs h5 hl
    ·exact spec_skip_1 w s A c hr hc hs h5 hl
  ·by_cases hv01 : verdictV s b = 0 ∨ verdictV s b = 1
   ·rw [show scanV s b = (stepS (takeS (crcT (runS s b) b) b),verdictV s b) by unfold scanV;rw [if_pos ⟨hs,hb⟩,if_neg h5,if_pos hv01]]
    have hlim : s.field = 14 → s.left ≠ 1:=by
     intro h14 h1
     unfold verdictV at hv01
     rw [if_neg (by omega),if_neg (by omega),if_neg (by omega),if_neg (by omega)] at hv01
     by_cases b0 : b = 0
     ·rw [if_pos b0] at hv01;omega
     ·rw [if_neg b0,if_neg (by omega),if_pos h1] at hv01;omega
    have h14 : verdictV s b = 1 → 10 < s.field:=by
     intro h
     unfold verdictV at h
     by_cases c1 : (s.field = 1 ∧ b = 1) ∨ ((s.field = 11 ∨ s.field = 13) ∧ b = 0)
     ·rw [if_pos c1] at h;omega
     rw [if_neg c1] at h
     by_cases c2 : s.field = 13 ∧ s.acc ≠ s.crc
     ·rw [if_pos c2] at h;omega
     rw [if_neg c2] at h
     by_cases c3 : s.field ≠ 14
     ·rw [if_pos c3] at h;omega
     ·omega
    have hr0:=hs.r0
    have hq0:=hs.q
    rcases hv01 with hv | hv
    ·rw [hv]
     by_cases hq : 10 < s.field
     ·rcases hb with rfl | rfl
      ·exact spec_quiet_0_0 w s A c hr hc hs hid hby h5 hv hlim hq
      ·exact spec_quiet_1_0 w s A c hr hc hs hid hby h5 hv hlim hq
     have hq : s.field ≤ 10:=by omega
     by_cases hz : s.run = 0
     ·have hcr : s.field ≤ 9:=by have:=hq0.1 hz;omega
      rcases hb with rfl | rfl
      ·exact spec_first_crc_0_0 w s A c hr hc hs hid hby h5 hv hlim hq hz hcr
      ·exact spec_first_crc_1_0 w s A c hr hc hs hid hby h5 hv hlim hq hz hcr
     have hr1 : 0 < s.run:=by omega
     by_cases hcr : s.field ≤ 9
     ·rcases hb with rfl | rfl
      ·by_cases hlv : s.level = 0
       ·exact spec_same_crc_0_0 w s A c hr hc hs hid hby h5 hv hlim hq hr1 hlv hcr
       ·exact spec_other_crc_0_0 w s A c hr hc hs hid hby h5 hv hlim hq hr1 hlv hcr
      ·by_cases hlv : s.level = 1
       ·exact spec_same_crc_1_0 w s A c hr hc hs hid hby h5 hv hlim hq hr1 hlv hcr
       ·exact spec_other_crc_1_0 w s A c hr hc hs hid hby h5 hv hlim hq hr1 hlv hcr
     ·have hcr : s.field = 10:=by omega
      rcases hb with rfl | rfl
      ·by_cases hlv : s.level = 0
       ·exact spec_same_0_0 w s A c hr hc hs hid hby h5 hv hlim hq hr1 hlv hcr
       ·exact spec_other_0_0 w s A c hr hc hs hid hby h5 hv hlim hq hr1 hlv hcr
      ·by_cases hlv : s.level = 1
       ·exact spec_same_1_0 w s A c hr hc hs hid hby h5 hv hlim hq hr1 hlv hcr
       ·exact spec_other_1_0 w s A c hr hc hs hid hby h5 hv hlim hq hr1 hlv hcr
    ·have hq:=h14 hv
     rw [hv]
     rcases hb with rfl | rfl
     ·exact spec_quiet_0_1 w s A c hr hc hs hid hby h5 hv hlim hq
     ·exact spec_quiet_1_1 w s A c hr hc hs hid hby h5 hv hlim hq
   ·rw [show scanV s b = (zeroS,verdictV s b) by unfold scanV;rw [if_pos ⟨hs,hb⟩,if_neg h5,if_neg hv01]]
    rcases hb with rfl | rfl
    ·refine (spec_bad_0 w s A c hr hc hs h5 (fun h => hv01 (.inl h)) (fun h => hv01 (.inr h))).mono ?_
     rintro e w' ⟨rfl,h⟩
     exact ⟨_,rfl,Kd.R_nil _ _ _ _ _,h⟩
    ·refine (spec_bad_1 w s A c hr hc hs h5 (fun h => hv01 (.inl h)) (fun h => hv01 (.inr h))).mono ?_
     rintro e w' ⟨rfl,h⟩
     exact ⟨_,rfl,Kd.R_nil _ _ _ _ _,h⟩
 ·rw [show scanV s b = (zeroS,8) by unfold scanV;rw [if_neg hsb]]
  refine (spec_no w s A c hr hc b ?_).mono ?_
  ·by_cases hs : Sound s
   ·right;refine ⟨fun h => hsb ⟨hs, .inl h⟩,fun h => hsb ⟨hs, .inr h⟩⟩
   ·left;exact soundB_false hs
  ·rintro e w' ⟨rfl,h⟩
   exact ⟨_,rfl,Kd.R_nil _ _ _ _ _,h⟩
end Go.Proofs.YtdoclpgciadjaaaDoor.P

namespace Go.Proofs.YtdoclpgciadjaaaDoor.P
open Go.RowKit Go.Proofs.YtdoclpgciadjaaaDoorW.PrintWords Go.Proofs.YtdoclpgciadjaaaDoorW.PrintLast Go.Proofs.YtdoclpgciadjaaaDoorW.PrintMore
set_option linter.unusedVariables false
set_option linter.unusedSimpArgs false
set_option maxHeartbeats 1000000 in
set_option maxRecDepth 100000 in
theorem scan_quiet_0_0 (w : World) (s : SS) (A : Option Addr) (c : Nat) (hr : Kd.C (Kd.int .u8) w A s.data.length s.data) (hc : s.data.length ≤ c) (hG : LaidRows w) (hs : Sound s) (i0 : 0 ≤ s.id) (hby : ∀ x ∈ s.data,0 ≤ x ∧ x < 256) (h5 : s.run ≠ 5) (hv : verdictV s 0 = 0) (hlim : s.field = 14 → s.left ≠ 1) (hq : 10 < s.field) :
  Calls Tryd.prog 8 #[.agg #[.int .i64 s.field, .int .i64 s.left, .int .i64 s.run, .int .i64 s.level, .int .i64 s.crc, .int .i64 s.acc, .bool s.ext, .int .u32 s.id, .bool s.rtr, .int .i64 s.dlc,(.slice A s.data.length c)], .int .i64 0] w fun e w' => ∃ v : Value,e = .returned (.tuple #[.agg #[.int .i64 (stepS (takeS (crcT (runS s 0) 0) 0)).field, .int .i64 (stepS (takeS (crcT (runS s 0) 0) 0)).left, .int .i64 (stepS (takeS (crcT (runS s 0) 0) 0)).run, .int .i64 (stepS (takeS (crcT (runS s 0) 0) 0)).level, .int .i64 (stepS (takeS (crcT (runS s 0) 0) 0)).crc, .int .i64 (stepS (takeS (crcT (runS s 0) 0) 0)).acc, .bool (stepS (takeS (crcT (runS s 0) 0) 0)).ext, .int .u32 (stepS (takeS (crcT (runS s 0) 0) 0)).id, .bool (stepS (takeS (crcT (runS s 0) 0) 0)).rtr, .int .i64 (stepS (takeS (crcT (runS s 0) 0) 0)).dlc,v], .int .i64 0]) ∧ Kd.R (Kd.int .u8) 5 w' w.heap.size (fun _ => True) v (stepS (takeS (crcT (runS s 0) 0) 0)).data ∧ Below w.heap.size w w':=by
 have HR:=Lib.hid hr
 have HC:=Lib.hid hc
 have HG:=Lib.hid hG
 clear hr hc hG
 have HS:=Lib.hid hs
 have HCP : Hid (impl_copyFrame.f s.ext s.id s.rtr s.dlc s.data = some (s.ext,s.id,s.rtr,s.dlc,s.data)):=Lib.hid (copy_eq (by have:=hs.dl;omega))
 have HSB : Hid (impl_Scan_sound.f 10 s.field s.left s.run s.level s.crc s.acc s.ext s.id s.rtr s.dlc s.data = some true):=Lib.hid (by rw [soundI,soundB_true hs])
 have HVB : Hid (impl_Scan_verdict.f 10 s.field s.left s.run s.level s.crc s.acc s.ext s.id s.rtr s.dlc s.data 0 = some 0):=Lib.hid (by rw [verdictI,hv])
 have b5 : (s.run == 5) = false:=beq_eq_false_iff_ne.mpr h5
 have r0:=hs.r0
 have r1:=hs.r1
 have f0:=hs.f0
 have HE1 : Hid (crcT (runS s 0) 0 = ({ s with run:=0,level:=0 } : SS)):=Lib.hid (by rw [show runS s 0 = ({ s with run:=0,level:=0 } : SS) by unfold runS;rw [if_pos hq]];unfold crcT;rw [if_neg (show ¬ s.field ≤ 9 by omega)])
 have HOK : Hid (SOk ({ s with run:=0,level:=0 } : SS)):=Lib.hid (by have h:=hs.ok i0 hby;exact ⟨h.f0,h.f1,h.l0,h.l1,h.d0,h.d1,h.i0,h.i1,h.a0,h.a1,h.ne,h.by_,h.dl⟩)
 have HTK : Hid ((takeS ({ s with run:=0,level:=0 } : SS) 0).field = s.field ∧ (takeS ({ s with run:=0,level:=0 } : SS) 0).left = s.left):=Lib.hid (takeS_keep _ _)
 have HTD : Hid (0 ≤ (takeS ({ s with run:=0,level:=0 } : SS) 0).dlc ∧ (takeS ({ s with run:=0,level:=0 } : SS) 0).dlc ≤ 15):=Lib.hid (takeS_dlc (s := { s with run:=0,level:=0 }) hs.d0 hs.d1 _)
 have HF : Hid (1 ≤ s.field ∧ s.field ≤ 14 ∧ 1 ≤ s.left ∧ s.left ≤ 64 ∧ (s.field = 14 → s.left ≠ 1)):=Lib.hid ⟨hs.f0,hs.f1,hs.l0,by have:=(sizeF_le hs.f0 hs.f1 hs.d0).2;have:=hs.l1;omega,hlim⟩
 clear hs i0 hby h5 hv hlim
 rw [HE1.out]
 generalize hTT : takeS ({ s with run:=0,level:=0 } : SS) 0 = T at HTK HTD ⊢
 have HTT:=Lib.hid hTT
 clear hTT
 go_enter Tryd.func8,Tryd.ntmps8
 go_wp2_with (fail)
 (refine (impl_Scan_sound.calls 10 s.field s.left s.run s.level s.crc s.acc s.ext s.id s.rtr s.dlc A c s.data true _ (Kd.C_alloc (Kd.C_alloc HR.out _) _) HC.out HSB.out (HG.out.alloc _ |>.alloc _)).mono ?_;rintro e w1 ⟨rfl,hb1⟩;have HW1:=Lib.hid ((SbIn.start w s (.slice A s.data.length c)).step hb1);clear hb1)
 have hx6:=cS6 HW1.out.box
 have hx7:=cS7 HW1.out.box
 have hx8:=cS8 HW1.out.box
 have hx9:=cS9 HW1.out.box
 have hx10:=cS10 HW1.out.box
 go_wp2_with (fail)
 clear hx6 hx7 hx8 hx9 hx10
 (refine (impl_copyFrame.calls s.ext s.id s.rtr s.dlc A c s.data s.ext s.id s.rtr s.dlc s.data _ (Kd.C_below HR.out HW1.out.below) HC.out HCP.out).mono ?_;rintro e w2 ⟨v2,rfl,hr2,hb2⟩;obtain ⟨A2,c2,rfl⟩:=Kd.R_slice hr2;have HR2:=Lib.hid hr2;have HB2:=Lib.hid hb2;have HW2:=Lib.hid (HW1.out.step hb2);clear hr2 hb2)
 go_wp2_with ((with_reducible refine gate_store (t:=29) (p:=22) rfl ?_);refine store_box rfl rfl rfl (g:=w.heap.size) (j:=6) (cs := #[.int .i64 s.field, .int .i64 s.left, .int .i64 s.run, .int .i64 s.level, .int .i64 s.crc, .int .i64 s.acc, .bool s.ext, .int .u32 s.id, .bool s.rtr, .int .i64 s.dlc,(.slice A s.data.length c)]) (cs' := #[.int .i64 s.field, .int .i64 s.left, .int .i64 s.run, .int .i64 s.level, .int .i64 s.crc, .int .i64 s.acc, .bool s.ext, .int .u32 s.id, .bool s.rtr, .int .i64 s.dlc,(.slice A2 s.data.length c2)]) (T:=31) (u := .agg #[.bool s.ext, .int .u32 s.id, .bool s.rtr, .int .i64 s.dlc,(.slice A2 s.data.length c2)]) (seg := [.bool s.ext, .int .u32 s.id, .bool s.rtr, .int .i64 s.dlc,(.slice A2 s.data.length c2)]) rfl rfl HW2.out.box rfl (by kernel_rfl) rfl rfl rfl ?_;intro w3 hx hT;have HW3:=Lib.hid (SbO.ofCopy HW1.out HB2.out HR2.out hx hT);clear hx hT;obtain ⟨hc0,hc1,hc2,hc3,hc4,hc5,hc6,hc7,hc8,hc9,hc10⟩:=cSall HW3.out.box;obtain ⟨hf0,hf1,hf2,hf3,hf4,hf5,hf6,hf7,hf8,hf9,hf10⟩:=fSall HW3.out.box)
 (refine (impl_Scan_verdict.calls 10 s.field s.left s.run s.level s.crc s.acc s.ext s.id s.rtr s.dlc A2 c2 s.data 0 0 _ (Kd.R_reads' HW3.out.row).2.2 (Kd.R_reads' HW3.out.row).2.1 HVB.out).mono ?_;rintro e w4 ⟨rfl,hb4⟩;have HW4:=Lib.hid (HW3.out.step hb4);clear hb4;clear hc0 hc1 hc2 hc3 hc4 hc5 hc6 hc7 hc8 hc9 hc10 hf0 hf1 hf2 hf3 hf4 hf5 hf6 hf7 hf8 hf9 hf10;obtain ⟨hc0,hc1,hc2,hc3,hc4,hc5,hc6,hc7,hc8,hc9,hc10⟩:=cSall HW4.out.box;obtain ⟨hf0,hf1,hf2,hf3,hf4,hf5,hf6,hf7,hf8,hf9,hf10⟩:=fSall HW4.out.box)
 go_wp2_with (fail)
 have HW6 : Hid (SbO w _ ({ s with run:=0,level:=0 } : SS) _):=Lib.hid ((HW4.out.put (setS2 HW4.out.box (0)) rfl).put (setS3 (setS2 HW4.out.box (0)) (0)) rfl)
 (refine (impl_Scan_plain.calls w.heap.size _ ({ s with run:=0,level:=0 } : SS) 0 (by omega) (fun k => w.heap.size + 1 < k) w _ HW6.out.toIn (Nat.le_refl _) (by (try simp only []);omega) HOK.out).mono ?_;intro e w5 hE;obtain ⟨v5,h7⟩:=HW6.out.ofEnd hE;have hret:=hE.ret;subst hret;clear hE)
 rw [HTT.out] at h7
 obtain ⟨A5,c5,rfl,hC5,hc5⟩:=h7.open_
 have HW7:=Lib.hid h7
 clear h7 hC5 hc5 HTT HW6 HE1 HOK
 clear hc0 hc1 hc2 hc3 hc4 hc5 hc6 hc7 hc8 hc9 hc10 hf0 hf1 hf2 hf3 hf4 hf5 hf6 hf7 hf8 hf9 hf10
 obtain ⟨hc0,hc1,hc2,hc3,hc4,hc5,hc6,hc7,hc8,hc9,hc10⟩:=cSall HW7.out.box
 obtain ⟨hf0,hf1,hf2,hf3,hf4,hf5,hf6,hf7,hf8,hf9,hf10⟩:=fSall HW7.out.box
 have tl0 : 1 ≤ T.left:=by have:=HTK.out;have:=HF.out;omega
 have tl1 : T.left ≤ 64:=by have:=HTK.out;have:=HF.out;omega
 have HW8:=Lib.hid (HW7.out.put (setS1 HW7.out.box (T.left - 1)) rfl)
 by_cases hL : T.left - 1 = 0
 ·have bL : (T.left - 1 == 0) = true:=beq_iff_eq.mpr hL
  have HL0:=Lib.hid hL
  have HSTEP : Hid (stepS T = enterS T (afterF T)):=Lib.hid (by unfold stepS;rw [if_pos hL])
  have HAR : Hid (1 ≤ afterF T ∧ afterF T ≤ 14):=Lib.hid (by have h1:=HTK.out;have h2:=HF.out;exact afterF_range (by omega) (by omega))
  have HAI : Hid (impl_fieldAfter.f T.field T.ext T.id T.rtr T.dlc T.data = some (afterF T)):=Lib.hid (by have h1:=HTK.out;have h2:=HF.out;exact afterI (by omega) (by omega))
  have HSI : Hid (impl_fieldSize.f (afterF T) T.ext T.id T.rtr T.dlc T.data = some (sizeF { T with field:=afterF T })):=Lib.hid (sizeI (s := { T with field:=afterF T }) HAR.out.1 HAR.out.2 HTD.out.1 HTD.out.2)
  generalize afterF T = AF at HSTEP HAR HAI HSI
  clear hL
  go_wp2_with (fail)
  (refine (impl_fieldAfter.calls T.field T.ext T.id T.rtr T.dlc A5 c5 T.data AF _ (Kd.R_reads' HW8.out.row).2.2 (Kd.R_reads' HW8.out.row).2.1 HAI.out (HG.out.next HW8.out.below)).mono ?_;rintro e w9 ⟨rfl,hb9⟩;have HW9:=Lib.hid (HW8.out.step hb9);clear hb9;clear hc0 hc1 hc2 hc3 hc4 hc5 hc6 hc7 hc8 hc9 hc10 hf0 hf1 hf2 hf3 hf4 hf5 hf6 hf7 hf8 hf9 hf10;obtain ⟨hc0,hc1,hc2,hc3,hc4,hc5,hc6,hc7,hc8,hc9,hc10⟩:=cSall HW9.out.box;obtain ⟨hf0,hf1,hf2,hf3,hf4,hf5,hf6,hf7,hf8,hf9,hf10⟩:=fSall HW9.out.box)
  have HW10:=Lib.hid (HW9.out.put (setS0 HW9.out.box AF) rfl)
  go_wp2_with (fail)
  (refine (impl_fieldSize.calls AF T.ext T.id T.rtr T.dlc A5 c5 T.data _ _ (Kd.R_reads' HW10.out.row).2.2 (Kd.R_reads' HW10.out.row).2.1 HSI.out (HG.out.next HW10.out.below)).mono ?_;rintro e w11 ⟨rfl,hb11⟩;have HW11:=Lib.hid (HW10.out.step hb11);clear hb11;clear hc0 hc1 hc2 hc3 hc4 hc5 hc6 hc7 hc8 hc9 hc10 hf0 hf1 hf2 hf3 hf4 hf5 hf6 hf7 hf8 hf9 hf10;obtain ⟨hc0,hc1,hc2,hc3,hc4,hc5,hc6,hc7,hc8,hc9,hc10⟩:=cSall HW11.out.box;obtain ⟨hf0,hf1,hf2,hf3,hf4,hf5,hf6,hf7,hf8,hf9,hf10⟩:=fSall HW11.out.box)
  generalize hSZ : sizeF { T with field:=AF } = SZ at HSI ⊢
  have HSZ:=Lib.hid hSZ
  clear hSZ
  have HW12:=Lib.hid (HW11.out.put (setS1 HW11.out.box SZ) rfl)
  by_cases h9 : AF = 9
  ·have b9 : (AF == 9) = true:=beq_iff_eq.mpr h9
   have HH9:=Lib.hid h9
   clear h9
   have hns:=HW12.out.nil
   have hsz12 : (w11.setCell ⟨w.heap.size,1,none⟩ (.int .i64 SZ)).heap.size = w11.heap.size:=by simp [World.setCell]
   rw [hsz12] at hns
   have HW13:=Lib.hid hns
   clear hns hsz12
   obtain ⟨hg0,hg1,hg2,hg3,hg4,hg5,hg6,hg7,hg8,hg9,hg10⟩:=cSall (blk_alloc HW12.out.box (.cells #[] 5))
   have hgf:=fS (blk_alloc HW12.out.box (.cells #[] 5)) 10
   go_wp2_with ((with_reducible refine gate_store (t:=31) (p:=4) rfl ?_);refine store_box rfl rfl rfl (g:=w.heap.size + 1) (j:=0) (cs := #[.int .i64 0, .int .i64 0, .int .i64 0, .int .i64 0, .int .i64 0, .int .i64 0, .bool false, .int .u32 0, .bool false, .int .i64 0, .slice none 0 0]) (cs' := #[.int .i64 AF, .int .i64 SZ, .int .i64 T.run, .int .i64 T.level, .int .i64 T.crc, .int .i64 T.acc, .bool T.ext, .int .u32 T.id, .bool T.rtr, .int .i64 T.dlc,(.slice (some ⟨w11.heap.size,0,none⟩) 0 0)]) (T:=31) (u := .agg #[.int .i64 AF, .int .i64 SZ, .int .i64 T.run, .int .i64 T.level, .int .i64 T.crc, .int .i64 T.acc, .bool T.ext, .int .u32 T.id, .bool T.rtr, .int .i64 T.dlc,(.slice (some ⟨w11.heap.size,0,none⟩) 0 0)]) (seg := [.int .i64 AF, .int .i64 SZ, .int .i64 T.run, .int .i64 T.level, .int .i64 T.crc, .int .i64 T.acc, .bool T.ext, .int .u32 T.id, .bool T.rtr, .int .i64 T.dlc,(.slice (some ⟨w11.heap.size,0,none⟩) 0 0)]) rfl rfl HW13.out.res rfl (by kernel_rfl) rfl rfl rfl ?_;intro wz hx hT;have HX:=Lib.hid hx;have HTZ:=Lib.hid hT;have HBz:=Lib.hid (hT.below HW13.out.below HW13.out.below.size (fun k hk => by omega));clear hx hT)
   refine bodyPost_ret (results_ct rfl _ _ (w.heap.size + 1) 31 #[.int .i64 AF, .int .i64 SZ, .int .i64 T.run, .int .i64 T.level, .int .i64 T.crc, .int .i64 T.acc, .bool T.ext, .int .u32 T.id, .bool T.rtr, .int .i64 T.dlc,(.slice (some ⟨w11.heap.size,0,none⟩) 0 0)] (0,0) _ rfl HX.out Tryd.underlying31 rfl (by kernel_rfl)) rfl ?_
   rw [HSTEP.out,show enterS T AF = { T with field:=AF,left:=SZ,data := [] } by unfold enterS;rw [if_pos HH9.out,HSZ.out]]
   exact ⟨_,rfl,Kd.R_mono (HTZ.out.R HW13.out.row (fun k hk e => by omega)) (fun _ _ => trivial),HBz.out⟩
  ·have b9 : (AF == 9) = false:=beq_eq_false_iff_ne.mpr h9
   have HH9:=Lib.hid h9
   clear h9
   go_wp2_with ((with_reducible refine gate_store (t:=31) (p:=4) rfl ?_);refine store_box rfl rfl rfl (g:=w.heap.size + 1) (j:=0) (cs := #[.int .i64 0, .int .i64 0, .int .i64 0, .int .i64 0, .int .i64 0, .int .i64 0, .bool false, .int .u32 0, .bool false, .int .i64 0, .slice none 0 0]) (cs' := #[.int .i64 AF, .int .i64 SZ, .int .i64 T.run, .int .i64 T.level, .int .i64 T.crc, .int .i64 T.acc, .bool T.ext, .int .u32 T.id, .bool T.rtr, .int .i64 T.dlc,(.slice A5 T.data.length c5)]) (T:=31) (u := .agg #[.int .i64 AF, .int .i64 SZ, .int .i64 T.run, .int .i64 T.level, .int .i64 T.crc, .int .i64 T.acc, .bool T.ext, .int .u32 T.id, .bool T.rtr, .int .i64 T.dlc,(.slice A5 T.data.length c5)]) (seg := [.int .i64 AF, .int .i64 SZ, .int .i64 T.run, .int .i64 T.level, .int .i64 T.crc, .int .i64 T.acc, .bool T.ext, .int .u32 T.id, .bool T.rtr, .int .i64 T.dlc,(.slice A5 T.data.length c5)]) rfl rfl HW12.out.res rfl (by kernel_rfl) rfl rfl rfl ?_;intro wz hx hT;have HX:=Lib.hid hx;have HTZ:=Lib.hid hT;have HBz:=Lib.hid (hT.below HW12.out.below HW12.out.below.size (fun k hk => by omega));clear hx hT)
   refine bodyPost_ret (results_ct rfl _ _ (w.heap.size + 1) 31 #[.int .i64 AF, .int .i64 SZ, .int .i64 T.run, .int .i64 T.level, .int .i64 T.crc, .int .i64 T.acc, .bool T.ext, .int .u32 T.id, .bool T.rtr, .int .i64 T.dlc,(.slice A5 T.data.length c5)] (0,0) _ rfl HX.out Tryd.underlying31 rfl (by kernel_rfl)) rfl ?_
   rw [HSTEP.out,show enterS T AF = { T with field:=AF,left:=SZ } by unfold enterS;rw [if_neg HH9.out,HSZ.out]]
   exact ⟨_,rfl,Kd.R_mono (HTZ.out.R HW12.out.row (fun k hk e => by omega)) (fun _ _ => trivial),HBz.out⟩
 ·have bL : (T.left - 1 == 0) = false:=beq_eq_false_iff_ne.mpr hL
  have HL0:=Lib.hid hL
  have HSTEP : Hid (stepS T = { T with left:=T.left - 1 }):=Lib.hid (by unfold stepS;rw [if_neg hL])
  clear hL
  go_wp2_with ((with_reducible refine gate_store (t:=31) (p:=4) rfl ?_);refine store_box rfl rfl rfl (g:=w.heap.size + 1) (j:=0) (cs := #[.int .i64 0, .int .i64 0, .int .i64 0, .int .i64 0, .int .i64 0, .int .i64 0, .bool false, .int .u32 0, .bool false, .int .i64 0, .slice none 0 0]) (cs' := #[.int .i64 T.field, .int .i64 (T.left - 1), .int .i64 T.run, .int .i64 T.level, .int .i64 T.crc, .int .i64 T.acc, .bool T.ext, .int .u32 T.id, .bool T.rtr, .int .i64 T.dlc,(.slice A5 T.data.length c5)]) (T:=31) (u := .agg #[.int .i64 T.field, .int .i64 (T.left - 1), .int .i64 T.run, .int .i64 T.level, .int .i64 T.crc, .int .i64 T.acc, .bool T.ext, .int .u32 T.id, .bool T.rtr, .int .i64 T.dlc,(.slice A5 T.data.length c5)]) (seg := [.int .i64 T.field, .int .i64 (T.left - 1), .int .i64 T.run, .int .i64 T.level, .int .i64 T.crc, .int .i64 T.acc, .bool T.ext, .int .u32 T.id, .bool T.rtr, .int .i64 T.dlc,(.slice A5 T.data.length c5)]) rfl rfl HW8.out.res rfl (by kernel_rfl) rfl rfl rfl ?_;intro wz hx hT;have HX:=Lib.hid hx;have HTZ:=Lib.hid hT;have HBz:=Lib.hid (hT.below HW8.out.below HW8.out.below.size (fun k hk => by omega));clear hx hT)
  refine bodyPost_ret (results_ct rfl _ _ (w.heap.size + 1) 31 #[.int .i64 T.field, .int .i64 (T.left - 1), .int .i64 T.run, .int .i64 T.level, .int .i64 T.crc, .int .i64 T.acc, .bool T.ext, .int .u32 T.id, .bool T.rtr, .int .i64 T.dlc,(.slice A5 T.data.length c5)] (0,0) _ rfl HX.out Tryd.underlying31 rfl (by kernel_rfl)) rfl ?_
  rw [HSTEP.out]
  exact ⟨_,rfl,Kd.R_mono (HTZ.out.R HW8.out.row (fun k hk e => by omega)) (fun _ _ => trivial),HBz.out⟩
end Go.Proofs.YtdoclpgciadjaaaDoor.P

namespace Go.Proofs.YtdoclpgciadjaaaDoor.P
open Go.RowKit Go.Proofs.YtdoclpgciadjaaaDoorW.PrintWords Go.Proofs.YtdoclpgciadjaaaDoorW.PrintLast Go.Proofs.YtdoclpgciadjaaaDoorW.PrintMore
set_option linter.unusedVariables false
set_option linter.unusedSimpArgs false
set_option maxHeartbeats 1000000 in
set_option maxRecDepth 100000 in
theorem scan_quiet_1_0 (w : World) (s : SS) (A : Option Addr) (c : Nat) (hr : Kd.C (Kd.int .u8) w A s.data.length s.data) (hc : s.data.length ≤ c) (hG : LaidRows w) (hs : Sound s) (i0 : 0 ≤ s.id) (hby : ∀ x ∈ s.data,0 ≤ x ∧ x < 256) (h5 : s.run ≠ 5) (hv : verdictV s 1 = 0) (hlim : s.field = 14 → s.left ≠ 1) (hq : 10 < s.field) :
  Calls Tryd.prog 8 #[.agg #[.int .i64 s.field, .int .i64 s.left, .int .i64 s.run, .int .i64 s.level, .int .i64 s.crc, .int .i64 s.acc, .bool s.ext, .int .u32 s.id, .bool s.rtr, .int .i64 s.dlc,(.slice A s.data.length c)], .int .i64 1] w fun e w' => ∃ v : Value,e = .returned (.tuple #[.agg #[.int .i64 (stepS (takeS (crcT (runS s 1) 1) 1)).field, .int .i64 (stepS (takeS (crcT (runS s 1) 1) 1)).left, .int .i64 (stepS (takeS (crcT (runS s 1) 1) 1)).run, .int .i64 (stepS (takeS (crcT (runS s 1) 1) 1)).level, .int .i64 (stepS (takeS (crcT (runS s 1) 1) 1)).crc, .int .i64 (stepS (takeS (crcT (runS s 1) 1) 1)).acc, .bool (stepS (takeS (crcT (runS s 1) 1) 1)).ext, .int .u32 (stepS (takeS (crcT (runS s 1) 1) 1)).id, .bool (stepS (takeS (crcT (runS s 1) 1) 1)).rtr, .int .i64 (stepS (takeS (crcT (runS s 1) 1) 1)).dlc,v], .int .i64 0]) ∧ Kd.R (Kd.int .u8) 5 w' w.heap.size (fun _ => True) v (stepS (takeS (crcT (runS s 1) 1) 1)).data ∧ Below w.heap.size w w':=by
 have HR:=Lib.hid hr
 have HC:=Lib.hid hc
 have HG:=Lib.hid hG
 clear hr hc hG
 have HS:=Lib.hid hs
 have HCP : Hid (impl_copyFrame.f s.ext s.id s.rtr s.dlc s.data = some (s.ext,s.id,s.rtr,s.dlc,s.data)):=Lib.hid (copy_eq (by have:=hs.dl;omega))
 have HSB : Hid (impl_Scan_sound.f 10 s.field s.left s.run s.level s.crc s.acc s.ext s.id s.rtr s.dlc s.data = some true):=Lib.hid (by rw [soundI,soundB_true hs])
 have HVB : Hid (impl_Scan_verdict.f 10 s.field s.left s.run s.level s.crc s.acc s.ext s.id s.rtr s.dlc s.data 1 = some 0):=Lib.hid (by rw [verdictI,hv])
 have b5 : (s.run == 5) = false:=beq_eq_false_iff_ne.mpr h5
 have r0:=hs.r0
 have r1:=hs.r1
 have f0:=hs.f0
 have HE1 : Hid (crcT (runS s 1) 1 = ({ s with run:=0,level:=0 } : SS)):=Lib.hid (by rw [show runS s 1 = ({ s with run:=0,level:=0 } : SS) by unfold runS;rw [if_pos hq]];unfold crcT;rw [if_neg (show ¬ s.field ≤ 9 by omega)])
 have HOK : Hid (SOk ({ s with run:=0,level:=0 } : SS)):=Lib.hid (by have h:=hs.ok i0 hby;exact ⟨h.f0,h.f1,h.l0,h.l1,h.d0,h.d1,h.i0,h.i1,h.a0,h.a1,h.ne,h.by_,h.dl⟩)
 have HTK : Hid ((takeS ({ s with run:=0,level:=0 } : SS) 1).field = s.field ∧ (takeS ({ s with run:=0,level:=0 } : SS) 1).left = s.left):=Lib.hid (takeS_keep _ _)
 have HTD : Hid (0 ≤ (takeS ({ s with run:=0,level:=0 } : SS) 1).dlc ∧ (takeS ({ s with run:=0,level:=0 } : SS) 1).dlc ≤ 15):=Lib.hid (takeS_dlc (s := { s with run:=0,level:=0 }) hs.d0 hs.d1 _)
 have HF : Hid (1 ≤ s.field ∧ s.field ≤ 14 ∧ 1 ≤ s.left ∧ s.left ≤ 64 ∧ (s.field = 14 → s.left ≠ 1)):=Lib.hid ⟨hs.f0,hs.f1,hs.l0,by have:=(sizeF_le hs.f0 hs.f1 hs.d0).2;have:=hs.l1;omega,hlim⟩
 clear hs i0 hby h5 hv hlim
 rw [HE1.out]
 generalize hTT : takeS ({ s with run:=0,level:=0 } : SS) 1 = T at HTK HTD ⊢
 have HTT:=Lib.hid hTT
 clear hTT
 go_enter Tryd.func8,Tryd.ntmps8
 go_wp2_with (fail)
 (refine (impl_Scan_sound.calls 10 s.field s.left s.run s.level s.crc s.acc s.ext s.id s.rtr s.dlc A c s.data true _ (Kd.C_alloc (Kd.C_alloc HR.out _) _) HC.out HSB.out (HG.out.alloc _ |>.alloc _)).mono ?_;rintro e w1 ⟨rfl,hb1⟩;have HW1:=Lib.hid ((SbIn.start w s (.slice A s.data.length c)).step hb1);clear hb1)
 have hx6:=cS6 HW1.out.box
 have hx7:=cS7 HW1.out.box
 have hx8:=cS8 HW1.out.box
 have hx9:=cS9 HW1.out.box
 have hx10:=cS10 HW1.out.box
 go_wp2_with (fail)
 clear hx6 hx7 hx8 hx9 hx10
 (refine (impl_copyFrame.calls s.ext s.id s.rtr s.dlc A c s.data s.ext s.id s.rtr s.dlc s.data _ (Kd.C_below HR.out HW1.out.below) HC.out HCP.out).mono ?_;rintro e w2 ⟨v2,rfl,hr2,hb2⟩;obtain ⟨A2,c2,rfl⟩:=Kd.R_slice hr2;have HR2:=Lib.hid hr2;have HB2:=Lib.hid hb2;have HW2:=Lib.hid (HW1.out.step hb2);clear hr2 hb2)
 go_wp2_with ((with_reducible refine gate_store (t:=29) (p:=22) rfl ?_);refine store_box rfl rfl rfl (g:=w.heap.size) (j:=6) (cs := #[.int .i64 s.field, .int .i64 s.left, .int .i64 s.run, .int .i64 s.level, .int .i64 s.crc, .int .i64 s.acc, .bool s.ext, .int .u32 s.id, .bool s.rtr, .int .i64 s.dlc,(.slice A s.data.length c)]) (cs' := #[.int .i64 s.field, .int .i64 s.left, .int .i64 s.run, .int .i64 s.level, .int .i64 s.crc, .int .i64 s.acc, .bool s.ext, .int .u32 s.id, .bool s.rtr, .int .i64 s.dlc,(.slice A2 s.data.length c2)]) (T:=31) (u := .agg #[.bool s.ext, .int .u32 s.id, .bool s.rtr, .int .i64 s.dlc,(.slice A2 s.data.length c2)]) (seg := [.bool s.ext, .int .u32 s.id, .bool s.rtr, .int .i64 s.dlc,(.slice A2 s.data.length c2)]) rfl rfl HW2.out.box rfl (by kernel_rfl) rfl rfl rfl ?_;intro w3 hx hT;have HW3:=Lib.hid (SbO.ofCopy HW1.out HB2.out HR2.out hx hT);clear hx hT;obtain ⟨hc0,hc1,hc2,hc3,hc4,hc5,hc6,hc7,hc8,hc9,hc10⟩:=cSall HW3.out.box;obtain ⟨hf0,hf1,hf2,hf3,hf4,hf5,hf6,hf7,hf8,hf9,hf10⟩:=fSall HW3.out.box)
 (refine (impl_Scan_verdict.calls 10 s.field s.left s.run s.level s.crc s.acc s.ext s.id s.rtr s.dlc A2 c2 s.data 1 0 _ (Kd.R_reads' HW3.out.row).2.2 (Kd.R_reads' HW3.out.row).2.1 HVB.out).mono ?_;rintro e w4 ⟨rfl,hb4⟩;have HW4:=Lib.hid (HW3.out.step hb4);clear hb4;clear hc0 hc1 hc2 hc3 hc4 hc5 hc6 hc7 hc8 hc9 hc10 hf0 hf1 hf2 hf3 hf4 hf5 hf6 hf7 hf8 hf9 hf10;obtain ⟨hc0,hc1,hc2,hc3,hc4,hc5,hc6,hc7,hc8,hc9,hc10⟩:=cSall HW4.out.box;obtain ⟨hf0,hf1,hf2,hf3,hf4,hf5,hf6,hf7,hf8,hf9,hf10⟩:=fSall HW4.out.box)
 go_wp2_with (fail)
 have HW6 : Hid (SbO w _ ({ s with run:=0,level:=0 } : SS) _):=Lib.hid ((HW4.out.put (setS2 HW4.out.box (0)) rfl).put (setS3 (setS2 HW4.out.box (0)) (0)) rfl)
 (refine (impl_Scan_plain.calls w.heap.size _ ({ s with run:=0,level:=0 } : SS) 1 (by omega) (fun k => w.heap.size + 1 < k) w _ HW6.out.toIn (Nat.le_refl _) (by (try simp only []);omega) HOK.out).mono ?_;intro e w5 hE;obtain ⟨v5,h7⟩:=HW6.out.ofEnd hE;have hret:=hE.ret;subst hret;clear hE)
 rw [HTT.out] at h7
 obtain ⟨A5,c5,rfl,hC5,hc5⟩:=h7.open_
 have HW7:=Lib.hid h7
 clear h7 hC5 hc5 HTT HW6 HE1 HOK
 clear hc0 hc1 hc2 hc3 hc4 hc5 hc6 hc7 hc8 hc9 hc10 hf0 hf1 hf2 hf3 hf4 hf5 hf6 hf7 hf8 hf9 hf10
 obtain ⟨hc0,hc1,hc2,hc3,hc4,hc5,hc6,hc7,hc8,hc9,hc10⟩:=cSall HW7.out.box
 obtain ⟨hf0,hf1,hf2,hf3,hf4,hf5,hf6,hf7,hf8,hf9,hf10⟩:=fSall HW7.out.box
 have tl0 : 1 ≤ T.left:=by have:=HTK.out;have:=HF.out;omega
 have tl1 : T.left ≤ 64:=by have:=HTK.out;have:=HF.out;omega
 have HW8:=Lib.hid (HW7.out.put (setS1 HW7.out.box (T.left - 1)) rfl)
 by_cases hL : T.left - 1 = 0
 ·have bL : (T.left - 1 == 0) = true:=beq_iff_eq.mpr hL
  have HL0:=Lib.hid hL
  have HSTEP : Hid (stepS T = enterS T (afterF T)):=Lib.hid (by unfold stepS;rw [if_pos hL])
  have HAR : Hid (1 ≤ afterF T ∧ afterF T ≤ 14):=Lib.hid (by have h1:=HTK.out;have h2:=HF.out;exact afterF_range (by omega) (by omega))
  have HAI : Hid (impl_fieldAfter.f T.field T.ext T.id T.rtr T.dlc T.data = some (afterF T)):=Lib.hid (by have h1:=HTK.out;have h2:=HF.out;exact afterI (by omega) (by omega))
  have HSI : Hid (impl_fieldSize.f (afterF T) T.ext T.id T.rtr T.dlc T.data = some (sizeF { T with field:=afterF T })):=Lib.hid (sizeI (s := { T with field:=afterF T }) HAR.out.1 HAR.out.2 HTD.out.1 HTD.out.2)
  generalize afterF T = AF at HSTEP HAR HAI HSI
  clear hL
  go_wp2_with (fail)
  (refine (impl_fieldAfter.calls T.field T.ext T.id T.rtr T.dlc A5 c5 T.data AF _ (Kd.R_reads' HW8.out.row).2.2 (Kd.R_reads' HW8.out.row).2.1 HAI.out (HG.out.next HW8.out.below)).mono ?_;rintro e w9 ⟨rfl,hb9⟩;have HW9:=Lib.hid (HW8.out.step hb9);clear hb9;clear hc0 hc1 hc2 hc3 hc4 hc5 hc6 hc7 hc8 hc9 hc10 hf0 hf1 hf2 hf3 hf4 hf5 hf6 hf7 hf8 hf9 hf10;obtain ⟨hc0,hc1,hc2,hc3,hc4,hc5,hc6,hc7,hc8,hc9,hc10⟩:=cSall HW9.out.box;obtain ⟨hf0,hf1,hf2,hf3,hf4,hf5,hf6,hf7,hf8,hf9,hf10⟩:=fSall HW9.out.box)
  have HW10:=Lib.hid (HW9.out.put (setS0 HW9.out.box AF) rfl)
  go_wp2_with (fail)
  (refine (impl_fieldSize.calls AF T.ext T.id T.rtr T.dlc A5 c5 T.data _ _ (Kd.R_reads' HW10.out.row).2.2 (Kd.R_reads' HW10.out.row).2.1 HSI.out (HG.out.next HW10.out.below)).mono ?_;rintro e w11 ⟨rfl,hb11⟩;have HW11:=Lib.hid (HW10.out.step hb11);clear hb11;clear hc0 hc1 hc2 hc3 hc4 hc5 hc6 hc7 hc8 hc9 hc10 hf0 hf1 hf2 hf3 hf4 hf5 hf6 hf7 hf8 hf9 hf10;obtain ⟨hc0,hc1,hc2,hc3,hc4,hc5,hc6,hc7,hc8,hc9,hc10⟩:=cSall HW11.out.box;obtain ⟨hf0,hf1,hf2,hf3,hf4,hf5,hf6,hf7,hf8,hf9,hf10⟩:=fSall HW11.out.box)
  generalize hSZ : sizeF { T with field:=AF } = SZ at HSI ⊢
  have HSZ:=Lib.hid hSZ
  clear hSZ
  have HW12:=Lib.hid (HW11.out.put (setS1 HW11.out.box SZ) rfl)
  by_cases h9 : AF = 9
  ·have b9 : (AF == 9) = true:=beq_iff_eq.mpr h9
   have HH9:=Lib.hid h9
   clear h9
   have hns:=HW12.out.nil
   have hsz12 : (w11.setCell ⟨w.heap.size,1,none⟩ (.int .i64 SZ)).heap.size = w11.heap.size:=by simp [World.setCell]
   rw [hsz12] at hns
   have HW13:=Lib.hid hns
   clear hns hsz12
   obtain ⟨hg0,hg1,hg2,hg3,hg4,hg5,hg6,hg7,hg8,hg9,hg10⟩:=cSall (blk_alloc HW12.out.box (.cells #[] 5))
   have hgf:=fS (blk_alloc HW12.out.box (.cells #[] 5)) 10
   go_wp2_with ((with_reducible refine gate_store (t:=31) (p:=4) rfl ?_);refine store_box rfl rfl rfl (g:=w.heap.size + 1) (j:=0) (cs := #[.int .i64 0, .int .i64 0, .int .i64 0, .int .i64 0, .int .i64 0, .int .i64 0, .bool false, .int .u32 0, .bool false, .int .i64 0, .slice none 0 0]) (cs' := #[.int .i64 AF, .int .i64 SZ, .int .i64 T.run, .int .i64 T.level, .int .i64 T.crc, .int .i64 T.acc, .bool T.ext, .int .u32 T.id, .bool T.rtr, .int .i64 T.dlc,(.slice (some ⟨w11.heap.size,0,none⟩) 0 0)]) (T:=31) (u := .agg #[.int .i64 AF, .int .i64 SZ, .int .i64 T.run, .int .i64 T.level, .int .i64 T.crc, .int .i64 T.acc, .bool T.ext, .int .u32 T.id, .bool T.rtr, .int .i64 T.dlc,(.slice (some ⟨w11.heap.size,0,none⟩) 0 0)]) (seg := [.int .i64 AF, .int .i64 SZ, .int .i64 T.run, .int .i64 T.level, .int .i64 T.crc, .int .i64 T.acc, .bool T.ext, .int .u32 T.id, .bool T.rtr, .int .i64 T.dlc,(.slice (some ⟨w11.heap.size,0,none⟩) 0 0)]) rfl rfl HW13.out.res rfl (by kernel_rfl) rfl rfl rfl ?_;intro wz hx hT;have HX:=Lib.hid hx;have HTZ:=Lib.hid hT;have HBz:=Lib.hid (hT.below HW13.out.below HW13.out.below.size (fun k hk => by omega));clear hx hT)
   refine bodyPost_ret (results_ct rfl _ _ (w.heap.size + 1) 31 #[.int .i64 AF, .int .i64 SZ, .int .i64 T.run, .int .i64 T.level, .int .i64 T.crc, .int .i64 T.acc, .bool T.ext, .int .u32 T.id, .bool T.rtr, .int .i64 T.dlc,(.slice (some ⟨w11.heap.size,0,none⟩) 0 0)] (0,0) _ rfl HX.out Tryd.underlying31 rfl (by kernel_rfl)) rfl ?_
   rw [HSTEP.out,show enterS T AF = { T with field:=AF,left:=SZ,data := [] } by unfold enterS;rw [if_pos HH9.out,HSZ.out]]
   exact ⟨_,rfl,Kd.R_mono (HTZ.out.R HW13.out.row (fun k hk e => by omega)) (fun _ _ => trivial),HBz.out⟩
  ·have b9 : (AF == 9) = false:=beq_eq_false_iff_ne.mpr h9
   have HH9:=Lib.hid h9
   clear h9
   go_wp2_with ((with_reducible refine gate_store (t:=31) (p:=4) rfl ?_);refine store_box rfl rfl rfl (g:=w.heap.size + 1) (j:=0) (cs := #[.int .i64 0, .int .i64 0, .int .i64 0, .int .i64 0, .int .i64 0, .int .i64 0, .bool false, .int .u32 0, .bool false, .int .i64 0, .slice none 0 0]) (cs' := #[.int .i64 AF, .int .i64 SZ, .int .i64 T.run, .int .i64 T.level, .int .i64 T.crc, .int .i64 T.acc, .bool T.ext, .int .u32 T.id, .bool T.rtr, .int .i64 T.dlc,(.slice A5 T.data.length c5)]) (T:=31) (u := .agg #[.int .i64 AF, .int .i64 SZ, .int .i64 T.run, .int .i64 T.level, .int .i64 T.crc, .int .i64 T.acc, .bool T.ext, .int .u32 T.id, .bool T.rtr, .int .i64 T.dlc,(.slice A5 T.data.length c5)]) (seg := [.int .i64 AF, .int .i64 SZ, .int .i64 T.run, .int .i64 T.level, .int .i64 T.crc, .int .i64 T.acc, .bool T.ext, .int .u32 T.id, .bool T.rtr, .int .i64 T.dlc,(.slice A5 T.data.length c5)]) rfl rfl HW12.out.res rfl (by kernel_rfl) rfl rfl rfl ?_;intro wz hx hT;have HX:=Lib.hid hx;have HTZ:=Lib.hid hT;have HBz:=Lib.hid (hT.below HW12.out.below HW12.out.below.size (fun k hk => by omega));clear hx hT)
   refine bodyPost_ret (results_ct rfl _ _ (w.heap.size + 1) 31 #[.int .i64 AF, .int .i64 SZ, .int .i64 T.run, .int .i64 T.level, .int .i64 T.crc, .int .i64 T.acc, .bool T.ext, .int .u32 T.id, .bool T.rtr, .int .i64 T.dlc,(.slice A5 T.data.length c5)] (0,0) _ rfl HX.out Tryd.underlying31 rfl (by kernel_rfl)) rfl ?_
   rw [HSTEP.out,show enterS T AF = { T with field:=AF,left:=SZ } by unfold enterS;rw [if_neg HH9.out,HSZ.out]]
   exact ⟨_,rfl,Kd.R_mono (HTZ.out.R HW12.out.row (fun k hk e => by omega)) (fun _ _ => trivial),HBz.out⟩
 ·have bL : (T.left - 1 == 0) = false:=beq_eq_false_iff_ne.mpr hL
  have HL0:=Lib.hid hL
  have HSTEP : Hid (stepS T = { T with left:=T.left - 1 }):=Lib.hid (by unfold stepS;rw [if_neg hL])
  clear hL
  go_wp2_with ((with_reducible refine gate_store (t:=31) (p:=4) rfl ?_);refine store_box rfl rfl rfl (g:=w.heap.size + 1) (j:=0) (cs := #[.int .i64 0, .int .i64 0, .int .i64 0, .int .i64 0, .int .i64 0, .int .i64 0, .bool false, .int .u32 0, .bool false, .int .i64 0, .slice none 0 0]) (cs' := #[.int .i64 T.field, .int .i64 (T.left - 1), .int .i64 T.run, .int .i64 T.level, .int .i64 T.crc, .int .i64 T.acc, .bool T.ext, .int .u32 T.id, .bool T.rtr, .int .i64 T.dlc,(.slice A5 T.data.length c5)]) (T:=31) (u := .agg #[.int .i64 T.field, .int .i64 (T.left - 1), .int .i64 T.run, .int .i64 T.level, .int .i64 T.crc, .int .i64 T.acc, .bool T.ext, .int .u32 T.id, .bool T.rtr, .int .i64 T.dlc,(.slice A5 T.data.length c5)]) (seg := [.int .i64 T.field, .int .i64 (T.left - 1), .int .i64 T.run, .int .i64 T.level, .int .i64 T.crc, .int .i64 T.acc, .bool T.ext, .int .u32 T.id, .bool T.rtr, .int .i64 T.dlc,(.slice A5 T.data.length c5)]) rfl rfl HW8.out.res rfl (by kernel_rfl) rfl rfl rfl ?_;intro wz hx hT;have HX:=Lib.hid hx;have HTZ:=Lib.hid hT;have HBz:=Lib.hid (hT.below HW8.out.below HW8.out.below.size (fun k hk => by omega));clear hx hT)
  refine bodyPost_ret (results_ct rfl _ _ (w.heap.size + 1) 31 #[.int .i64 T.field, .int .i64 (T.left - 1), .int .i64 T.run, .int .i64 T.level, .int .i64 T.crc, .int .i64 T.acc, .bool T.ext, .int .u32 T.id, .bool T.rtr, .int .i64 T.dlc,(.slice A5 T.data.length c5)] (0,0) _ rfl HX.out Tryd.underlying31 rfl (by kernel_rfl)) rfl ?_
  rw [HSTEP.out]
  exact ⟨_,rfl,Kd.R_mono (HTZ.out.R HW8.out.row (fun k hk e => by omega)) (fun _ _ => trivial),HBz.out⟩
end Go.Proofs.YtdoclpgciadjaaaDoor.P

namespace Go.Proofs.YtdoclpgciadjaaaDoor.P
open Go.RowKit Go.Proofs.YtdoclpgciadjaaaDoorW.PrintWords Go.Proofs.YtdoclpgciadjaaaDoorW.PrintLast Go.Proofs.YtdoclpgciadjaaaDoorW.PrintMore
set_option linter.unusedVariables false
set_option linter.unusedSimpArgs false
set_option maxHeartbeats 1000000 in
set_option maxRecDepth 100000 in
theorem scan_same_crc_0_0 (w : World) (s : SS) (A : Option Addr) (c : Nat) (hr : Kd.C (Kd.int .u8) w A s.data.length s.data) (hc : s.data.length ≤ c) (hG : LaidRows w) (hs : Sound s) (i0 : 0 ≤ s.id) (hby : ∀ x ∈ s.data,0 ≤ x ∧ x < 256) (h5 : s.run ≠ 5) (hv : verdictV s 0 = 0) (hlim : s.field = 14 → s.left ≠ 1) (hq : s.field ≤ 10) (hr0 : 0 < s.run) (hlv : s.level = 0) (hcr : s.field ≤ 9) :
  Calls Tryd.prog 8 #[.agg #[.int .i64 s.field, .int .i64 s.left, .int .i64 s.run, .int .i64 s.level, .int .i64 s.crc, .int .i64 s.acc, .bool s.ext, .int .u32 s.id, .bool s.rtr, .int .i64 s.dlc,(.slice A s.data.length c)], .int .i64 0] w fun e w' => ∃ v : Value,e = .returned (.tuple #[.agg #[.int .i64 (stepS (takeS (crcT (runS s 0) 0) 0)).field, .int .i64 (stepS (takeS (crcT (runS s 0) 0) 0)).left, .int .i64 (stepS (takeS (crcT (runS s 0) 0) 0)).run, .int .i64 (stepS (takeS (crcT (runS s 0) 0) 0)).level, .int .i64 (stepS (takeS (crcT (runS s 0) 0) 0)).crc, .int .i64 (stepS (takeS (crcT (runS s 0) 0) 0)).acc, .bool (stepS (takeS (crcT (runS s 0) 0) 0)).ext, .int .u32 (stepS (takeS (crcT (runS s 0) 0) 0)).id, .bool (stepS (takeS (crcT (runS s 0) 0) 0)).rtr, .int .i64 (stepS (takeS (crcT (runS s 0) 0) 0)).dlc,v], .int .i64 0]) ∧ Kd.R (Kd.int .u8) 5 w' w.heap.size (fun _ => True) v (stepS (takeS (crcT (runS s 0) 0) 0)).data ∧ Below w.heap.size w w':=by
 have HR:=Lib.hid hr
 have HC:=Lib.hid hc
 have HG:=Lib.hid hG
 clear hr hc hG
 have HS:=Lib.hid hs
 have HCP : Hid (impl_copyFrame.f s.ext s.id s.rtr s.dlc s.data = some (s.ext,s.id,s.rtr,s.dlc,s.data)):=Lib.hid (copy_eq (by have:=hs.dl;omega))
 have HSB : Hid (impl_Scan_sound.f 10 s.field s.left s.run s.level s.crc s.acc s.ext s.id s.rtr s.dlc s.data = some true):=Lib.hid (by rw [soundI,soundB_true hs])
 have HVB : Hid (impl_Scan_verdict.f 10 s.field s.left s.run s.level s.crc s.acc s.ext s.id s.rtr s.dlc s.data 0 = some 0):=Lib.hid (by rw [verdictI,hv])
 have b5 : (s.run == 5) = false:=beq_eq_false_iff_ne.mpr h5
 have r0:=hs.r0
 have r1:=hs.r1
 have f0:=hs.f0
 have bl : (s.level == 0) = true:=beq_iff_eq.mpr hlv
 have HE1 : Hid (crcT (runS s 0) 0 = ({ s with run:=s.run + 1,crc:=crcI s.crc 0 } : SS)):=Lib.hid (by rw [show runS s 0 = ({ s with run:=s.run + 1 } : SS) by unfold runS;rw [if_neg (by omega),if_pos ⟨hr0,hlv⟩]];unfold crcT;rw [if_pos (show s.field ≤ 9 from hcr)])
 have HOK : Hid (SOk ({ s with run:=s.run + 1,crc:=crcI s.crc 0 } : SS)):=Lib.hid (by have h:=hs.ok i0 hby;exact ⟨h.f0,h.f1,h.l0,h.l1,h.d0,h.d1,h.i0,h.i1,h.a0,h.a1,h.ne,h.by_,h.dl⟩)
 have HTK : Hid ((takeS ({ s with run:=s.run + 1,crc:=crcI s.crc 0 } : SS) 0).field = s.field ∧ (takeS ({ s with run:=s.run + 1,crc:=crcI s.crc 0 } : SS) 0).left = s.left):=Lib.hid (takeS_keep _ _)
 have HTD : Hid (0 ≤ (takeS ({ s with run:=s.run + 1,crc:=crcI s.crc 0 } : SS) 0).dlc ∧ (takeS ({ s with run:=s.run + 1,crc:=crcI s.crc 0 } : SS) 0).dlc ≤ 15):=Lib.hid (takeS_dlc (s := { s with run:=s.run + 1,crc:=crcI s.crc 0 }) hs.d0 hs.d1 _)
 have HF : Hid (1 ≤ s.field ∧ s.field ≤ 14 ∧ 1 ≤ s.left ∧ s.left ≤ 64 ∧ (s.field = 14 → s.left ≠ 1)):=Lib.hid ⟨hs.f0,hs.f1,hs.l0,by have:=(sizeF_le hs.f0 hs.f1 hs.d0).2;have:=hs.l1;omega,hlim⟩
 have h4 : s.run ≤ 4:=by omega
 clear hs i0 hby h5 hv hlim hlv
 rw [HE1.out]
 generalize hTT : takeS ({ s with run:=s.run + 1,crc:=crcI s.crc 0 } : SS) 0 = T at HTK HTD ⊢
 have HTT:=Lib.hid hTT
 clear hTT
 go_enter Tryd.func8,Tryd.ntmps8
 go_wp2_with (fail)
 (refine (impl_Scan_sound.calls 10 s.field s.left s.run s.level s.crc s.acc s.ext s.id s.rtr s.dlc A c s.data true _ (Kd.C_alloc (Kd.C_alloc HR.out _) _) HC.out HSB.out (HG.out.alloc _ |>.alloc _)).mono ?_;rintro e w1 ⟨rfl,hb1⟩;have HW1:=Lib.hid ((SbIn.start w s (.slice A s.data.length c)).step hb1);clear hb1)
 have hx6:=cS6 HW1.out.box
 have hx7:=cS7 HW1.out.box
 have hx8:=cS8 HW1.out.box
 have hx9:=cS9 HW1.out.box
 have hx10:=cS10 HW1.out.box
 go_wp2_with (fail)
 clear hx6 hx7 hx8 hx9 hx10
 (refine (impl_copyFrame.calls s.ext s.id s.rtr s.dlc A c s.data s.ext s.id s.rtr s.dlc s.data _ (Kd.C_below HR.out HW1.out.below) HC.out HCP.out).mono ?_;rintro e w2 ⟨v2,rfl,hr2,hb2⟩;obtain ⟨A2,c2,rfl⟩:=Kd.R_slice hr2;have HR2:=Lib.hid hr2;have HB2:=Lib.hid hb2;have HW2:=Lib.hid (HW1.out.step hb2);clear hr2 hb2)
 go_wp2_with ((with_reducible refine gate_store (t:=29) (p:=22) rfl ?_);refine store_box rfl rfl rfl (g:=w.heap.size) (j:=6) (cs := #[.int .i64 s.field, .int .i64 s.left, .int .i64 s.run, .int .i64 s.level, .int .i64 s.crc, .int .i64 s.acc, .bool s.ext, .int .u32 s.id, .bool s.rtr, .int .i64 s.dlc,(.slice A s.data.length c)]) (cs' := #[.int .i64 s.field, .int .i64 s.left, .int .i64 s.run, .int .i64 s.level, .int .i64 s.crc, .int .i64 s.acc, .bool s.ext, .int .u32 s.id, .bool s.rtr, .int .i64 s.dlc,(.slice A2 s.data.length c2)]) (T:=31) (u := .agg #[.bool s.ext, .int .u32 s.id, .bool s.rtr, .int .i64 s.dlc,(.slice A2 s.data.length c2)]) (seg := [.bool s.ext, .int .u32 s.id, .bool s.rtr, .int .i64 s.dlc,(.slice A2 s.data.length c2)]) rfl rfl HW2.out.box rfl (by kernel_rfl) rfl rfl rfl ?_;intro w3 hx hT;have HW3:=Lib.hid (SbO.ofCopy HW1.out HB2.out HR2.out hx hT);clear hx hT;obtain ⟨hc0,hc1,hc2,hc3,hc4,hc5,hc6,hc7,hc8,hc9,hc10⟩:=cSall HW3.out.box;obtain ⟨hf0,hf1,hf2,hf3,hf4,hf5,hf6,hf7,hf8,hf9,hf10⟩:=fSall HW3.out.box)
 (refine (impl_Scan_verdict.calls 10 s.field s.left s.run s.level s.crc s.acc s.ext s.id s.rtr s.dlc A2 c2 s.data 0 0 _ (Kd.R_reads' HW3.out.row).2.2 (Kd.R_reads' HW3.out.row).2.1 HVB.out).mono ?_;rintro e w4 ⟨rfl,hb4⟩;have HW4:=Lib.hid (HW3.out.step hb4);clear hb4;clear hc0 hc1 hc2 hc3 hc4 hc5 hc6 hc7 hc8 hc9 hc10 hf0 hf1 hf2 hf3 hf4 hf5 hf6 hf7 hf8 hf9 hf10;obtain ⟨hc0,hc1,hc2,hc3,hc4,hc5,hc6,hc7,hc8,hc9,hc10⟩:=cSall HW4.out.box;obtain ⟨hf0,hf1,hf2,hf3,hf4,hf5,hf6,hf7,hf8,hf9,hf10⟩:=fSall HW4.out.box)
 go_wp2_with (first | (go_at_call 30;refine (impl_crcBit.same _ _ _).mono ?_;rintro e w' ⟨rfl,rfl⟩))
 have HW6 : Hid (SbO w _ ({ s with run:=s.run + 1,crc:=crcI s.crc 0 } : SS) _):=Lib.hid ((HW4.out.put (setS2 HW4.out.box (s.run + 1)) rfl).put (setS4 (setS2 HW4.out.box (s.run + 1)) (crcI s.crc 0)) rfl)
 (refine (impl_Scan_plain.calls w.heap.size _ ({ s with run:=s.run + 1,crc:=crcI s.crc 0 } : SS) 0 (by omega) (fun k => w.heap.size + 1 < k) w _ HW6.out.toIn (Nat.le_refl _) (by (try simp only []);omega) HOK.out).mono ?_;intro e w5 hE;obtain ⟨v5,h7⟩:=HW6.out.ofEnd hE;have hret:=hE.ret;subst hret;clear hE)
 rw [HTT.out] at h7
 obtain ⟨A5,c5,rfl,hC5,hc5⟩:=h7.open_
 have HW7:=Lib.hid h7
 clear h7 hC5 hc5 HTT HW6 HE1 HOK
 clear hc0 hc1 hc2 hc3 hc4 hc5 hc6 hc7 hc8 hc9 hc10 hf0 hf1 hf2 hf3 hf4 hf5 hf6 hf7 hf8 hf9 hf10
 obtain ⟨hc0,hc1,hc2,hc3,hc4,hc5,hc6,hc7,hc8,hc9,hc10⟩:=cSall HW7.out.box
 obtain ⟨hf0,hf1,hf2,hf3,hf4,hf5,hf6,hf7,hf8,hf9,hf10⟩:=fSall HW7.out.box
 have tl0 : 1 ≤ T.left:=by have:=HTK.out;have:=HF.out;omega
 have tl1 : T.left ≤ 64:=by have:=HTK.out;have:=HF.out;omega
 have HW8:=Lib.hid (HW7.out.put (setS1 HW7.out.box (T.left - 1)) rfl)
 by_cases hL : T.left - 1 = 0
 ·have bL : (T.left - 1 == 0) = true:=beq_iff_eq.mpr hL
  have HL0:=Lib.hid hL
  have HSTEP : Hid (stepS T = enterS T (afterF T)):=Lib.hid (by unfold stepS;rw [if_pos hL])
  have HAR : Hid (1 ≤ afterF T ∧ afterF T ≤ 14):=Lib.hid (by have h1:=HTK.out;have h2:=HF.out;exact afterF_range (by omega) (by omega))
  have HAI : Hid (impl_fieldAfter.f T.field T.ext T.id T.rtr T.dlc T.data = some (afterF T)):=Lib.hid (by have h1:=HTK.out;have h2:=HF.out;exact afterI (by omega) (by omega))
  have HSI : Hid (impl_fieldSize.f (afterF T) T.ext T.id T.rtr T.dlc T.data = some (sizeF { T with field:=afterF T })):=Lib.hid (sizeI (s := { T with field:=afterF T }) HAR.out.1 HAR.out.2 HTD.out.1 HTD.out.2)
  generalize afterF T = AF at HSTEP HAR HAI HSI
  clear hL
  go_wp2_with (fail)
  (refine (impl_fieldAfter.calls T.field T.ext T.id T.rtr T.dlc A5 c5 T.data AF _ (Kd.R_reads' HW8.out.row).2.2 (Kd.R_reads' HW8.out.row).2.1 HAI.out (HG.out.next HW8.out.below)).mono ?_;rintro e w9 ⟨rfl,hb9⟩;have HW9:=Lib.hid (HW8.out.step hb9);clear hb9;clear hc0 hc1 hc2 hc3 hc4 hc5 hc6 hc7 hc8 hc9 hc10 hf0 hf1 hf2 hf3 hf4 hf5 hf6 hf7 hf8 hf9 hf10;obtain ⟨hc0,hc1,hc2,hc3,hc4,hc5,hc6,hc7,hc8,hc9,hc10⟩:=cSall HW9.out.box;obtain ⟨hf0,hf1,hf2,hf3,hf4,hf5,hf6,hf7,hf8,hf9,hf10⟩:=fSall HW9.out.box)
  have HW10:=Lib.hid (HW9.out.put (setS0 HW9.out.box AF) rfl)
  go_wp2_with (fail)
  (refine (impl_fieldSize.calls AF T.ext T.id T.rtr T.dlc A5 c5 T.data _ _ (Kd.R_reads' HW10.out.row).2.2 (Kd.R_reads' HW10.out.row).2.1 HSI.out (HG.out.next HW10.out.below)).mono ?_;rintro e w11 ⟨rfl,hb11⟩;have HW11:=Lib.hid (HW10.out.step hb11);clear hb11;clear hc0 hc1 hc2 hc3 hc4 hc5 hc6 hc7 hc8 hc9 hc10 hf0 hf1 hf2 hf3 hf4 hf5 hf6 hf7 hf8 hf9 hf10;obtain ⟨hc0,hc1,hc2,hc3,hc4,hc5,hc6,hc7,hc8,hc9,hc10⟩:=cSall HW11.out.box;obtain ⟨hf0,hf1,hf2,hf3,hf4,hf5,hf6,hf7,hf8,hf9,hf10⟩:=fSall HW11.out.box)
  generalize hSZ : sizeF { T with field:=AF } = SZ at HSI ⊢
  have HSZ:=Lib.hid hSZ
  clear hSZ
  have HW12:=Lib.hid (HW11.out.put (setS1 HW11.out.box SZ) rfl)
  by_cases h9 : AF = 9
  ·have b9 : (AF == 9) = true:=beq_iff_eq.mpr h9
   have HH9:=Lib.hid h9
   clear h9
   have hns:=HW12.out.nil
   have hsz12 : (w11.setCell ⟨w.heap.size,1,none⟩ (.int .i64 SZ)).heap.size = w11.heap.size:=by simp [World.setCell]
   rw [hsz12] at hns
   have HW13:=Lib.hid hns
   clear hns hsz12
   obtain ⟨hg0,hg1,hg2,hg3,hg4,hg5,hg6,hg7,hg8,hg9,hg10⟩:=cSall (blk_alloc HW12.out.box (.cells #[] 5))
   have hgf:=fS (blk_alloc HW12.out.box (.cells #[] 5)) 10
   go_wp2_with ((with_reducible refine gate_store (t:=31) (p:=4) rfl ?_);refine store_box rfl rfl rfl (g:=w.heap.size + 1) (j:=0) (cs := #[.int .i64 0, .int .i64 0, .int .i64 0, .int .i64 0, .int .i64 0, .int .i64 0, .bool false, .int .u32 0, .bool false, .int .i64 0, .slice none 0 0]) (cs' := #[.int .i64 AF, .int .i64 SZ, .int .i64 T.run, .int .i64 T.level, .int .i64 T.crc, .int .i64 T.acc, .bool T.ext, .int .u32 T.id, .bool T.rtr, .int .i64 T.dlc,(.slice (some ⟨w11.heap.size,0,none⟩) 0 0)]) (T:=31) (u := .agg #[.int .i64 AF, .int .i64 SZ, .int .i64 T.run, .int .i64 T.level, .int .i64 T.crc, .int .i64 T.acc, .bool T.ext, .int .u32 T.id, .bool T.rtr, .int .i64 T.dlc,(.slice (some ⟨w11.heap.size,0,none⟩) 0 0)]) (seg := [.int .i64 AF, .int .i64 SZ, .int .i64 T.run, .int .i64 T.level, .int .i64 T.crc, .int .i64 T.acc, .bool T.ext, .int .u32 T.id, .bool T.rtr, .int .i64 T.dlc,(.slice (some ⟨w11.heap.size,0,none⟩) 0 0)]) rfl rfl HW13.out.res rfl (by kernel_rfl) rfl rfl rfl ?_;intro wz hx hT;have HX:=Lib.hid hx;have HTZ:=Lib.hid hT;have HBz:=Lib.hid (hT.below HW13.out.below HW13.out.below.size (fun k hk => by omega));clear hx hT)
   refine bodyPost_ret (results_ct rfl _ _ (w.heap.size + 1) 31 #[.int .i64 AF, .int .i64 SZ, .int .i64 T.run, .int .i64 T.level, .int .i64 T.crc, .int .i64 T.acc, .bool T.ext, .int .u32 T.id, .bool T.rtr, .int .i64 T.dlc,(.slice (some ⟨w11.heap.size,0,none⟩) 0 0)] (0,0) _ rfl HX.out Tryd.underlying31 rfl (by kernel_rfl)) rfl ?_
   rw [HSTEP.out,show enterS T AF = { T with field:=AF,left:=SZ,data := [] } by unfold enterS;rw [if_pos HH9.out,HSZ.out]]
   exact ⟨_,rfl,Kd.R_mono (HTZ.out.R HW13.out.row (fun k hk e => by omega)) (fun _ _ => trivial),HBz.out⟩
  ·have b9 : (AF == 9) = false:=beq_eq_false_iff_ne.mpr h9
   have HH9:=Lib.hid h9
   clear h9
   go_wp2_with ((with_reducible refine gate_store (t:=31) (p:=4) rfl ?_);refine store_box rfl rfl rfl (g:=w.heap.size + 1) (j:=0) (cs := #[.int .i64 0, .int .i64 0, .int .i64 0, .int .i64 0, .int .i64 0, .int .i64 0, .bool false, .int .u32 0, .bool false, .int .i64 0, .slice none 0 0]) (cs' := #[.int .i64 AF, .int .i64 SZ, .int .i64 T.run, .int .i64 T.level, .int .i64 T.crc, .int .i64 T.acc, .bool T.ext, .int .u32 T.id, .bool T.rtr, .int .i64 T.dlc,(.slice A5 T.data.length c5)]) (T:=31) (u := .agg #[.int .i64 AF, .int .i64 SZ, .int .i64 T.run, .int .i64 T.level, .int .i64 T.crc, .int .i64 T.acc, .bool T.ext, .int .u32 T.id, .bool T.rtr, .int .i64 T.dlc,(.slice A5 T.data.length c5)]) (seg := [.int .i64 AF, .int .i64 SZ, .int .i64 T.run, .int .i64 T.level, .int .i64 T.crc, .int .i64 T.acc, .bool T.ext, .int .u32 T.id, .bool T.rtr, .int .i64 T.dlc,(.slice A5 T.data.length c5)]) rfl rfl HW12.out.res rfl (by kernel_rfl) rfl rfl rfl ?_;intro wz hx hT;have HX:=Lib.hid hx;have HTZ:=Lib.hid hT;have HBz:=Lib.hid (hT.below HW12.out.below HW12.out.below.size (fun k hk => by omega));clear hx hT)
   refine bodyPost_ret (results_ct rfl _ _ (w.heap.size + 1) 31 #[.int .i64 AF, .int .i64 SZ, .int .i64 T.run, .int .i64 T.level, .int .i64 T.crc, .int .i64 T.acc, .bool T.ext, .int .u32 T.id, .bool T.rtr, .int .i64 T.dlc,(.slice A5 T.data.length c5)] (0,0) _ rfl HX.out Tryd.underlying31 rfl (by kernel_rfl)) rfl ?_
   rw [HSTEP.out,show enterS T AF = { T with field:=AF,left:=SZ } by unfold enterS;rw [if_neg HH9.out,HSZ.out]]
   exact ⟨_,rfl,Kd.R_mono (HTZ.out.R HW12.out.row (fun k hk e => by omega)) (fun _ _ => trivial),HBz.out⟩
 ·have bL : (T.left - 1 == 0) = false:=beq_eq_false_iff_ne.mpr hL
  have HL0:=Lib.hid hL
  have HSTEP : Hid (stepS T = { T with left:=T.left - 1 }):=Lib.hid (by unfold stepS;rw [if_neg hL])
  clear hL
  go_wp2_with ((with_reducible refine gate_store (t:=31) (p:=4) rfl ?_);refine store_box rfl rfl rfl (g:=w.heap.size + 1) (j:=0) (cs := #[.int .i64 0, .int .i64 0, .int .i64 0, .int .i64 0, .int .i64 0, .int .i64 0, .bool false, .int .u32 0, .bool false, .int .i64 0, .slice none 0 0]) (cs' := #[.int .i64 T.field, .int .i64 (T.left - 1), .int .i64 T.run, .int .i64 T.level, .int .i64 T.crc, .int .i64 T.acc, .bool T.ext, .int .u32 T.id, .bool T.rtr, .int .i64 T.dlc,(.slice A5 T.data.length c5)]) (T:=31) (u := .agg #[.int .i64 T.field, .int .i64 (T.left - 1), .int .i64 T.run, .int .i64 T.level, .int .i64 T.crc, .int .i64 T.acc, .bool T.ext, .int .u32 T.id, .bool T.rtr, .int .i64 T.dlc,(.slice A5 T.data.length c5)]) (seg := [.int .i64 T.field, .int .i64 (T.left - 1), .int .i64 T.run, .int .i64 T.level, .int .i64 T.crc, .int .i64 T.acc, .bool T.ext, .int .u32 T.id, .bool T.rtr, .int .i64 T.dlc,(.slice A5 T.data.length c5)]) rfl rfl HW8.out.res rfl (by kernel_rfl) rfl rfl rfl ?_;intro wz hx hT;have HX:=Lib.hid hx;have HTZ:=Lib.hid hT;have HBz:=Lib.hid (hT.below HW8.out.below HW8.out.below.size (fun k hk => by omega));clear hx hT)
  refine bodyPost_ret (results_ct rfl _ _ (w.heap.size + 1) 31 #[.int .i64 T.field, .int .i64 (T.left - 1), .int .i64 T.run, .int .i64 T.level, .int .i64 T.crc, .int .i64 T.acc, .bool T.ext, .int .u32 T.id, .bool T.rtr, .int .i64 T.dlc,(.slice A5 T.data.length c5)] (0,0) _ rfl HX.out Tryd.underlying31 rfl (by kernel_rfl)) rfl ?_
  rw [HSTEP.out]
  exact ⟨_,rfl,Kd.R_mono (HTZ.out.R HW8.out.row (fun k hk e => by omega)) (fun _ _ => trivial),HBz.out⟩
end Go.Proofs.YtdoclpgciadjaaaDoor.P
