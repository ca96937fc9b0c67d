/- Texts of the proof of FnExactDecode, joined. -/
import Derived.Test.YtdoclpgciadjaaaSFnExactDecode21
import Derived.Test.YtdoclpgciadjaaaSFnExactDecode26
import Derived.Test.YtdoclpgciadjaaaSFnExactDecode23
import Derived.Deep.RegionHeld
import Derived.Deep.RegionLaw
namespace Go.Proofs.Ytdoclpgciadjaaa.P
open Go.RowKit Go.Proofs.YtdoclpgciadjaaaW.PrintWords Go.Proofs.YtdoclpgciadjaaaW.PrintLast Go.Proofs.YtdoclpgciadjaaaW.PrintMore
set_option linter.unusedVariables false
set_option linter.unusedSimpArgs false
def spec_Decode.f (a0 : ByteArray) : Option (Bool × Int × Bool × Int × List Int × Int) := some (decodeV a0)
theorem cut_str {A : Option Addr} {c : Nat} (p : List Int) (lo hi : Nat) (l h : Int) (hl : l = lo) (hh : h = hi) (h1 : lo ≤ hi) (h2 : hi ≤ p.length) (hc : p.length ≤ c) : ∃ A' m c',
    (∀ W : World, (Instr.slice 22 (.slice A p.length c) (some (.int .i64 l)) (some (.int .i64 h)) none).run Try.prog W = .ok (.slice A' m c') W) ∧
    (∀ W : World, Kd.C (Kd.int .u8) W A p.length p → (convert 22 9 (.slice A' m c')).run Try.prog W = .ok (.string (strOfNums ((p.take hi).drop lo))) W) := by
  subst hl hh
  obtain ⟨i0, hi0, _, hsz, _⟩ := info_parts infoU8w
  refine ⟨_, _, _, cut_mid (P := Try.prog) 22 5 .i64 .i64 Try.underlying22 hi0 1 hsz A p.length c lo hi (by omega) (by omega) (by omega) hc, fun W hC => ?_⟩
  have := Kd.C_mid (lo := lo) (hi := hi) hC h1 h2 hc
  have hlen : ((p.take hi).drop lo).length = hi - lo := by rw [List.length_drop, List.length_take]; omega
  rw [Int.toNat_natCast, Int.toNat_natCast, ← hlen]
  exact Kd.C_string Try.underlying22 Try.underlying5 Try.underlying9 this
theorem R_cells {p : List Int} {gp cp n : Nat} {w : World} {base : Nat} {ok : Nat → Prop} (h : Kd.R (Kd.int .u8) 5 w base ok (.slice (some ⟨gp, 0, none⟩) n cp) p) (j : Nat) (hj : j < p.length) : w.cell? ⟨gp, j, none⟩ = some (.int .u8 (rd p (j : Int))) := by
  obtain rfl : n = p.length := (Kd.R_reads' h).1
  have := (Kd.R_celln 0 h (j : Int) (by omega) (by omega)).1
  rw [Int.toNat_natCast] at this
  exact this
set_option maxRecDepth 20000 in
set_option maxHeartbeats 4000000 in
theorem spec_Decode.other (a0 : ByteArray) (w : World) (cc : Int) (h1 : cc ≠ 1) (h2 : cc ≠ 2) (p : List Int) (dd : Bool) (k0 : Nat) (hk0 : spec_l1walk.f k0 a0 = some (cc, p, dd)) :
    Calls Try.prog 45 #[.string a0] w fun e' w' => e' = .returned (.tuple #[.agg #[.bool false, .int .u32 0, .bool false, .int .i64 0, .slice none 0 0], .int .i64 cc]) ∧ Below w.heap.size w w' := by
  have b1 : (cc != 1) = true := bne_iff_ne.mpr h1
  have b2 : (cc != 2) = true := bne_iff_ne.mpr h2
  have HK0 := Lib.hid hk0
  have hu2 := Try.underlying25
  clear hk0 h1 h2
  go_enter Try.func45, Try.ntmps45
  go_wp2_with (first | ((with_reducible refine gate_dst (N := 2) rfl ?_); refine box_event ?hg (N := 2) ?hd (cs := #[.bool false, .int .u32 0, .bool false, .int .i64 0, .slice none 0 0]) (t := 25) ?hr ?_; (case hd => rfl); (case hg => rfl); (case hr => first | (go_simp; done) | (go_simp; rfl)); intro g2 hg w1 hbox hb; have HG2 := Lib.hid hbox; have HB1 := Lib.hid hb; have HE2 : Hid (w.heap.size ≤ g2) := Lib.hid (by rw [hg]; exact Nat.le_refl _); clear hg hbox hb) | (go_at_call 86; refine (spec_l1walk.calls k0 a0 cc p dd w1 HK0.out).mono ?_; rintro e w2 ⟨v2, rfl, hr, hb⟩; have HG3 := Lib.hid (blk_below HG2.out hb); have HB2 := Lib.hid (below_then HB1.out HB1.out.size hb); clear hr hb) | ((with_reducible refine gate_store (t := 25) (p := 2) rfl ?_); refine store_box rfl rfl rfl (g := g2) (j := 0) (cs := #[.bool false, .int .u32 0, .bool false, .int .i64 0, .slice none 0 0]) (cs' := #[.bool false, .int .u32 0, .bool false, .int .i64 0, .slice none 0 0]) (T := 25) (u := .agg #[.bool false, .int .u32 0, .bool false, .int .i64 0, .slice none 0 0]) (seg := [.bool false, .int .u32 0, .bool false, .int .i64 0, .slice none 0 0]) rfl rfl HG3.out rfl (by kernel_rfl) rfl rfl rfl ?_; intro w6 hx hT; have HX := Lib.hid hx; have HB6 := Lib.hid (hT.below HB2.out HB2.out.size (fun k hk => by rw [hk]; exact HE2.out)); clear hx hT))
  refine bodyPost_ret (results_ct rfl _ _ g2 25 #[.bool false, .int .u32 0, .bool false, .int .i64 0, .slice none 0 0] (0, 0) _ rfl HX.out Try.underlying25 rfl (by kernel_rfl)) rfl ?_
  exact ⟨rfl, HB6.out⟩
set_option maxRecDepth 20000 in
set_option maxHeartbeats 4000000 in
theorem spec_Decode.liveX (a0 : ByteArray) (w : World) (cc : Int) (hcc : cc = 1 ∨ cc = 2) (p : List Int) (dd : Bool) (k0 : Nat) (hk0 : spec_l1walk.f k0 a0 = some (cc, p, dd)) (r : Bool) (i d : Int) (data : List Int) (n : Nat) (R9 : Reads9 p true r i d data 39 n) :
    Calls Try.prog 45 #[.string a0] w fun e' w' => ∃ v, e' = .returned (.tuple #[.agg #[.bool true, .int .u32 i, .bool r, .int .i64 d, v], .int .i64 cc]) ∧ Kd.R (Kd.int .u8) 5 w' w.heap.size (fun _ => True) v data ∧ Below w.heap.size w w' := by
  obtain ⟨k1, hk1⟩ := R9.lay.rounds
  obtain ⟨k2, hk2⟩ := R9.vd.rounds
  obtain ⟨k3, hk3⟩ := R9.vi.rounds
  obtain ⟨k4, hk4⟩ := (R9.ve rfl).rounds
  rw [if_pos rfl] at hk3
  obtain ⟨SD, hSD⟩ : ∃ S, S = strOfNums ((p.take 39).drop (39 - 4)) := ⟨_, rfl⟩
  obtain ⟨SI, hSI⟩ : ∃ S, S = strOfNums ((p.take 12).drop 1) := ⟨_, rfl⟩
  rw [← hSD] at hk2
  rw [← hSI] at hk3
  obtain ⟨SX, hSX⟩ : ∃ S, S = strOfNums ((p.take 12).drop 1 ++ (p.take 32).drop 14) := ⟨_, rfl⟩
  rw [← hSX] at hk4
  obtain ⟨VI, hVI⟩ : ∃ v, v = V ((p.take 12).drop 1) := ⟨_, rfl⟩
  rw [← hVI] at hk3
  have hv1 := R9.v1
  rw [← hVI] at hv1
  have HSX := Lib.hid hSX
  have HSD := Lib.hid hSD
  have HSI := Lib.hid hSI
  have hlen := R9.len
  have HK0 := Lib.hid hk0
  have HK1 := Lib.hid hk1
  have HK2 := Lib.hid hk2
  have HK3 := Lib.hid hk3
  have HK4 := Lib.hid hk4
  have HR9 := Lib.hid R9
  have hu2 := Try.underlying25
  have hdw : IntKind.u32.wrap VI = VI := by rw [IntKind.wrap_u32]; omega
  have HLN := Lib.hid hlen
  clear hk0 hk1 hk2 hk3 hk4 R9 hlen hSD hSI hSX hVI hv1
  rcases hcc with rfl | rfl
  all_goals
    go_enter Try.func45, Try.ntmps45
    go_upto_region 5 with (first | ((with_reducible refine gate_dst (N := 2) rfl ?_); refine box_event ?hg (N := 2) ?hd (cs := #[.bool false, .int .u32 0, .bool false, .int .i64 0, .slice none 0 0]) (t := 25) ?hr ?_; (case hd => rfl); (case hg => rfl); (case hr => first | (go_simp; done) | (go_simp; rfl)); intro g2 hg w1 hbox hb; have HG1 := Lib.hid hbox; have HB1 := Lib.hid hb; have HE2 : Hid (w.heap.size ≤ g2) := Lib.hid (by rw [hg]; exact Nat.le_refl _); clear hg hbox hb) | (go_at_call 86; refine (spec_l1walk.calls k0 a0 _ p dd w1 HK0.out).mono ?_; rintro e' w2 ⟨v2, rfl, hr, hb⟩; obtain ⟨gp, cp, rfl, _, _, _⟩ := Kd.R_form hr (by have := HLN.out; omega); have HCP := Lib.hid (Kd.R_reads' hr).2.1; have HG2 := Lib.hid (blk_below HG1.out hb); have HB2 := Lib.hid (below_then HB1.out HB1.out.size hb); have HP2 := Lib.hid (Kd.R_lower hr HB1.out.size); clear hr hb) | (go_at_call 102; refine (spec_l1lay.calls k1 _ _ p _ _ w2 (Kd.R_reads' HP2.out).2.2 HCP.out HK1.out).mono ?_; rintro e' w3 ⟨rfl, hd⟩; have hd := hd.below; have HG3 := Lib.hid (blk_below HG2.out hd); have HB3 := Lib.hid (below_then HB2.out HB2.out.size hd); have HP3 := Lib.hid (Kd.R_below HP2.out hd); clear hd))
    have hw4 : wrap64 (39 - 4) = 35 := by unfold wrap64; decide
    obtain ⟨aD, mD, cD, hcD, hvD⟩ := cut_str (A := some ⟨gp, 0, none⟩) (c := cp) p 35 39 35 39 rfl rfl (by omega) (by have := HLN.out; omega) HCP.out
    have hcvD := (hvD w3 (Kd.R_reads' HP3.out).2.2).trans (by rw [← HSD.out])
    clear hvD
    go_upto_region 6 with (first | (go_at_call 103; refine (spec_l1val.calls k2 _ _ w3 HK2.out).mono ?_; rintro e' w4 ⟨rfl, hd⟩; have hd := hd.below; have HG4 := Lib.hid (blk_below HG3.out hd); have HB4 := Lib.hid (below_then HB3.out HB3.out.size hd); have HP4 := Lib.hid (Kd.R_below HP3.out hd); clear hd) | ((with_reducible refine gate_dst (N := 39) rfl ?_); refine lit_event (T := 5) (cs := #[]) (n := 0) rfl ?hr ?_; (case hr => first | (go_simp; done) | (go_simp; rfl)); intro g0 hg w5 hb; have HEg0 : Hid (w.heap.size ≤ g0 ∧ g0 ≠ gp) := Lib.hid (by rw [hg]; exact ⟨HB4.out.size, fun e => by have := Kd.R_lt HP4.out gp rfl; omega⟩); have HG5 := Lib.hid (blk_below HG4.out hb.2); have HB5 := Lib.hid (below_then HB4.out HB4.out.size hb.2); have HP5 := Lib.hid (Kd.R_below HP4.out hb.2); have HZ5 := Lib.hid hb.1; clear hg hb) | ((with_reducible refine gate_dst (N := 9) rfl ?_); refine box_event ?hg (N := 9) ?hd (cs := #[.bool false, .int .u32 0, .bool false, .int .i64 0, .slice none 0 0]) (t := 25) ?hr ?_; (case hd => rfl); (case hg => rfl); (case hr => first | (go_simp; done) | (go_simp; rfl)); intro g9 hg w6 hbox hb; have HF6 := Lib.hid hbox; have HG6 := Lib.hid (blk_below HG5.out hb); have HN29 : Hid (g2 ≠ g9) := Lib.hid (by rw [hg]; exact Nat.ne_of_lt (blk_lt HG5.out)); have HE9 : Hid (w.heap.size ≤ g9) := Lib.hid (by rw [hg]; exact HB5.out.size); have HB6 := Lib.hid (below_then HB5.out HB5.out.size hb); have HP6 := Lib.hid (Kd.R_below HP5.out hb); have HZ6 := Lib.hid (blk_below HZ5.out hb); clear hg hbox hb) | ((with_reducible refine gate_store (t := 25) (p := 9) rfl ?_); refine store_box rfl rfl rfl (g := g9) (j := 0) (cs := #[.bool false, .int .u32 0, .bool false, .int .i64 0, .slice none 0 0]) (cs' := #[.bool true, .int .u32 0, .bool false, .int .i64 d, .slice (some ⟨g0, 0, none⟩) 0 0]) (T := 25) (u := .agg #[.bool true, .int .u32 0, .bool false, .int .i64 d, .slice (some ⟨g0, 0, none⟩) 0 0]) (seg := [.bool true, .int .u32 0, .bool false, .int .i64 d, .slice (some ⟨g0, 0, none⟩) 0 0]) rfl rfl HF6.out rfl (by kernel_rfl) rfl rfl rfl ?_; intro w7 hx hT; have HF7 := Lib.hid hx; have HG7 := Lib.hid (hT.blk HG6.out HN29.out); have HB7 := Lib.hid (hT.below HB6.out HB6.out.size (fun k hk => by rw [hk]; exact HE9.out)); have HP7 := Lib.hid (R_tch HP6.out HF6.out (by decide) hT); have HZ7 := Lib.hid (hT.blk HZ6.out (fun e => by have := HZ6.out; rw [e, HF6.out] at this; cases this)); clear hx hT))
    obtain ⟨aI, mI, cI, hcI, hvI⟩ := cut_str (A := some ⟨gp, 0, none⟩) (c := cp) p 1 12 1 12 rfl rfl (by omega) (by have := HLN.out; omega) HCP.out
    have hcvI := (hvI w7 (Kd.R_reads' HP7.out).2.2).trans (by rw [← HSI.out])
    have HVI := Lib.hid hvI
    clear hvI
    have q12 : ((12 : Int) < (p.length : Int)) = True := eq_true (by have := HLN.out; omega)
    have q12n : (12 < p.length) = True := eq_true (by have := HLN.out; omega)
    go_upto_region 9 with (first | (go_at_call 103; refine (spec_l1val.calls k3 _ _ w7 HK3.out).mono ?_; rintro e' w8 ⟨rfl, hd⟩; have hd := hd.below; have HF8 := Lib.hid (blk_below HF7.out hd); have HG8 := Lib.hid (blk_below HG7.out hd); have HB8 := Lib.hid (below_then HB7.out HB7.out.size hd); have HP8 := Lib.hid (Kd.R_below HP7.out hd); have HZ8 := Lib.hid (blk_below HZ7.out hd); clear hd) | ((with_reducible refine gate_store (t := 23) (p := 46) rfl ?_); refine store_box rfl rfl rfl (g := g9) (j := 1) (cs := #[.bool true, .int .u32 0, .bool false, .int .i64 d, .slice (some ⟨g0, 0, none⟩) 0 0]) (cs' := #[.bool true, .int .u32 VI, .bool false, .int .i64 d, .slice (some ⟨g0, 0, none⟩) 0 0]) (T := 25) (u := .int .u32 VI) (seg := [.int .u32 VI]) rfl rfl HF8.out rfl (by kernel_rfl) rfl rfl rfl ?_; intro w9 hx hT; have HF9 := Lib.hid hx; have HG9 := Lib.hid (hT.blk HG8.out HN29.out); have HB9 := Lib.hid (hT.below HB8.out HB8.out.size (fun k hk => by rw [hk]; exact HE9.out)); have HP9 := Lib.hid (R_tch HP8.out HF8.out (by decide) hT); have HZ9 := Lib.hid (hT.blk HZ8.out (fun e => by have := HZ8.out; rw [e, HF8.out] at this; cases this)); have HX12 := Lib.hid (R_cells HP9.out 12 (by have := HLN.out; omega)); clear hx hT) | ((with_reducible refine gate_store (t := 4) (p := 51) rfl ?_); refine store_box rfl rfl rfl (g := g9) (j := 2) (cs := #[.bool true, .int .u32 VI, .bool false, .int .i64 d, .slice (some ⟨g0, 0, none⟩) 0 0]) (cs' := #[.bool true, .int .u32 VI, .bool (rd p 12 == 49), .int .i64 d, .slice (some ⟨g0, 0, none⟩) 0 0]) (T := 25) (u := .bool (rd p 12 == 49)) (seg := [.bool (rd p 12 == 49)]) rfl rfl HF9.out rfl (by kernel_rfl) rfl rfl rfl ?_; intro wa hx hT; have HFa := Lib.hid hx; have HGa := Lib.hid (hT.blk HG9.out HN29.out); have HBa := Lib.hid (hT.below HB9.out HB9.out.size (fun k hk => by rw [hk]; exact HE9.out)); have HPa := Lib.hid (R_tch HP9.out HF9.out (by decide) hT); have HZa := Lib.hid (hT.blk HZ9.out (fun e => by have := HZ9.out; rw [e, HF9.out] at this; cases this)); clear hx hT) | ((with_reducible refine gate_dst (N := 49) rfl ?_); refine load_at rfl rfl (x := ⟨gp, 12, none⟩) (v := .int .u8 (rd p 12)) rfl HX12.out Try.underlying5 rfl ?_) | ((with_reducible refine gate_dst (N := 53) rfl ?_); refine load_cell rfl rfl (g := g9) (j := 0) rfl HFa.out rfl Try.underlying4 rfl ?_))
    clear hcvD hcvI hcD hw4 hdw
    have hvI := HVI.out
    rw [← HSI.out] at hvI
    obtain ⟨aX, mX, cX, hcX, hvX⟩ := cut_str (A := some ⟨gp, 0, none⟩) (c := cp) p 14 32 14 32 rfl rfl (by omega) (by have := HLN.out; omega) HCP.out
    obtain ⟨SJ, hSJ⟩ : ∃ S, S = strOfNums ((p.take 32).drop 14) := ⟨_, rfl⟩
    rw [← hSJ] at hvX
    have HK5 : Hid (spec_l1val.f k4 (SI ++ SJ) = some i) := Lib.hid (by rw [← HK4.out, HSX.out, HSI.out, hSJ, str_append])
    have HKEEP : Hid (∀ W : World, Kd.C (Kd.int .u8) W (some ⟨gp, 0, none⟩) p.length p → ((convert 22 9 (.slice aI mI cI)).run Try.prog W = .ok (.string SI) W ∧ (convert 22 9 (.slice aX mX cX)).run Try.prog W = .ok (.string SJ) W)) := Lib.hid fun W h => ⟨hvI W h, hvX W h⟩
    have hz1 : SI.size = 11 := by rw [HSI.out, strOfNums_size, List.length_drop, List.length_take]; have := HLN.out; omega
    have hz2 : SJ.size = 18 := by rw [hSJ, strOfNums_size, List.length_drop, List.length_take]; have := HLN.out; omega
    clear hvI hvX hSJ
    have hdw2 : IntKind.u32.wrap i = i := by have := HR9.out.i0; rw [IntKind.wrap_u32]; omega
    have q32 : ((32 : Int) < (p.length : Int)) = True := eq_true (by have := HLN.out; omega)
    have q32n : (32 < p.length) = True := eq_true (by have := HLN.out; omega)
    go_region_held (fun w' => (convert 22 9 (.slice aI mI cI)).run Try.prog w' = .ok (.string SI) w' ∧ (convert 22 9 (.slice aX mX cX)).run Try.prog w' = .ok (.string SJ) w') (first | exact HKEEP.out _ (show Kd.C (Kd.int .u8) wa.drew (some ⟨gp, 0, none⟩) p.length p from (Kd.R_reads' HPa.out).2.2) | exact HKEEP.out _ (Kd.R_reads' HPb.out).2.2 | exact HKEEP.out _ (Kd.R_reads' HPc.out).2.2) (first | (go_at_call 103; refine (spec_l1val.calls k4 _ _ wa.drew HK5.out).mono ?_; rintro e' wb ⟨rfl, hd⟩; have hd := hd.below; have HFb := Lib.hid (blk_below (show wa.drew.heap[g9]? = _ from HFa.out) hd); have HGb := Lib.hid (blk_below (show wa.drew.heap[g2]? = _ from HGa.out) hd); have HBb := Lib.hid (below_then (below_drew HBa.out) HBa.out.size hd); have HPb := Lib.hid (Kd.R_below (Kd.R_drew HPa.out) hd); have HZb := Lib.hid (blk_below (show wa.drew.heap[g0]? = _ from HZa.out) hd); clear hd; have hcb := blk_cell HFb.out 1; have hfb := blk_frozen HFb.out 1; have HTc := Lib.hid ((Tch.refl1 wb g9).one 1 (.int .u32 i)); have HPc := Lib.hid (R_tch HPb.out HFb.out (by decide) HTc.out)))
    have HFc : Hid ((wb.setCell ⟨g9, 1, none⟩ (.int .u32 i)).heap[g9]? = some (.cells #[.bool true, .int .u32 i, .bool (rd p 12 == 49), .int .i64 d, .slice (some ⟨g0, 0, none⟩) 0 0] 25 (0, 0))) := Lib.hid (blk_put HFb.out 1 _ rfl)
    have HGc := Lib.hid (HTc.out.blk HGb.out HN29.out)
    have HZc := Lib.hid (HTc.out.blk HZb.out (fun e => by have := HZb.out; rw [e, HFb.out] at this; cases this))
    have HBc := Lib.hid (HTc.out.below HBb.out HBb.out.size (fun k hk => by rw [hk]; exact HE9.out))
    clear hcb hfb HTc
    generalize wb.setCell ⟨g9, 1, none⟩ (.int .u32 i) = wc at *
    have HX32 := Lib.hid (R_cells HPc.out 32 (by have := HLN.out; omega))
    go_upto_region 11 with (first | ((with_reducible refine gate_dst (N := 66) rfl ?_); refine load_at rfl rfl (x := ⟨gp, 32, none⟩) (v := .int .u8 (rd p 32)) rfl HX32.out Try.underlying5 rfl ?_) | ((with_reducible refine gate_store (t := 4) (p := 68) rfl ?_); refine store_box rfl rfl rfl (g := g9) (j := 2) (cs := #[.bool true, .int .u32 i, .bool (rd p 12 == 49), .int .i64 d, .slice (some ⟨g0, 0, none⟩) 0 0]) (cs' := #[.bool true, .int .u32 i, .bool (rd p 32 == 49), .int .i64 d, .slice (some ⟨g0, 0, none⟩) 0 0]) (T := 25) (u := .bool (rd p 32 == 49)) (seg := [.bool (rd p 32 == 49)]) rfl rfl HFc.out rfl (by kernel_rfl) rfl rfl rfl ?_; intro wd hx hT; have HFd := Lib.hid hx; have HGd := Lib.hid (hT.blk HGc.out HN29.out); have HBd := Lib.hid (hT.below HBc.out HBc.out.size (fun k hk => by rw [hk]; exact HE9.out)); have HPd := Lib.hid (R_tch HPc.out HFc.out (by decide) hT); have HZd := Lib.hid (hT.blk HZc.out (fun e => by have := HZc.out; rw [e, HFc.out] at this; cases this)); clear hx hT))
    rw [← HR9.out.rx rfl] at HFd
    clear q32 q32n q12 q12n hcX hcI hdw2 hz1 hz2
    have HV0 : Hid (Kd.R (Kd.int .u8) 5 wd w.heap.size (fun k => k ≠ gp) (.slice (some ⟨g0, 0, none⟩) 0 0) (data.take 0)) := Lib.hid (R_lit0 HZd.out HEg0.out)
    clear HZd
    have HPz := Lib.hid (Kd.R_mono (Kd.R_tight (d := Kd.int .u8) rfl HPd.out) (fun k hk => (show k = gp by simpa [Value.ownBlock] using hk)))
    clear HPd
    go_wp2_with (fail)
    go_loopw [10] (fun v10 wr => ∃ (j : Nat) (t : Int) (v : Value) (D : List Int), j ≤ n ∧ Aside0 (D = data.take j) ∧ v10 = .int .i64 t ∧ Aside0 (t = (39 : Int) + 8 * (j : Int)) ∧ Aside0 (wr.heap[g9]? = some (.cells #[.bool true, .int .u32 i, .bool r, .int .i64 d, v] 25 (0, 0))) ∧ Aside0 (Kd.R (Kd.int .u8) 5 wr w.heap.size (fun k => k ≠ gp) v D) ∧ Aside0 (Kd.R (Kd.int .u8) 5 wr w.heap.size (fun k => k = gp) (.slice (some ⟨gp, 0, none⟩) p.length cp) p) ∧ Aside0 (wr.heap[g2]? = some (.cells #[.bool false, .int .u32 0, .bool false, .int .i64 0, .slice none 0 0] 25 (0, 0))) ∧ Aside0 (Below w.heap.size w wr)) (fun v10 _ => 8 * n + 60 - (intOf v10).toNat)
    case atStart => exact ⟨0, _, _, _, Nat.zero_le _, ⟨rfl⟩, rfl, ⟨rfl⟩, ⟨HFd.out⟩, ⟨HV0.out⟩, ⟨HPz.out⟩, ⟨HGd.out⟩, ⟨HBd.out⟩⟩
    case round =>
      clear HFd HV0 HPz HGd HBd
      obtain ⟨j, t, v, D, hj, HD, rfl, HT, HF, HO, HP, HG, HB⟩ := hrel
      obtain ⟨A, c, rfl⟩ := Kd.R_slice HO.out
      by_cases hlt : j < n
      · obtain ⟨t8, ht8⟩ : ∃ t8 : Int, t8 = 47 + 8 * (j : Int) := ⟨_, rfl⟩
        have hw1 : wrap64 (t + 8) = t8 := by have := HR9.out.nn; have := HT.out; unfold wrap64; omega
        have c1 : decide (t8 ≤ 39 + 8 * (n : Int)) = true := decide_eq_true (by omega)
        obtain ⟨x, hev, htk, hx0, hx1⟩ := HR9.out.v8 j hlt
        obtain ⟨k5, hk5⟩ := hev.rounds
        obtain ⟨aC, mC, cC, hcC, hvC⟩ := cut_str (A := some ⟨gp, 0, none⟩) (c := cp) p (39 + 8 * j) (39 + 8 * j + 8) t t8 (by have := HT.out; omega) (by omega) (by omega) (by have := HLN.out; omega) HCP.out
        have hw2 : IntKind.i64.wrap (t + 8) = t8 := by have h := hw1; unfold wrap64 at h; rw [IntKind.wrap_i64]; exact h
        have HT8 := Lib.hid ht8
        clear ht8
        obtain ⟨SC, hSC⟩ : ∃ S, S = strOfNums ((p.take (39 + 8 * j + 8)).drop (39 + 8 * j)) := ⟨_, rfl⟩
        rw [← hSC] at hk5 hvC
        have HVC := Lib.hid hvC
        have HK5 := Lib.hid hk5
        have HTK : Hid (data.take (j + 1) = D ++ [x]) := Lib.hid (by rw [HD.out, htk, Int.emod_eq_of_lt hx0 hx1])
        have hw8 : IntKind.u8.wrap x = x := by rw [IntKind.wrap_u8]; omega
        have hc4 : wr.cell? ⟨g9, 4, none⟩ = some (.slice A D.length c) := blk_cell HF.out 4
        have HJ := Lib.hid hlt
        clear hSC hvC hk5 hev htk hx0 hx1 hj
        go_upto_region 14 with (fail)
        have hcvC := HVC.out wr.drew (show Kd.C (Kd.int .u8) wr.drew (some ⟨gp, 0, none⟩) p.length p from (Kd.R_reads' HP.out).2.2)
        go_region_law (first | (refine goes_ Try.func103 (by kernel_rfl) rfl #[.string SC] (by rfl) (by rfl) (by rfl) (by simp only [List.map_toArray, List.map_cons, List.map_nil]; rfl) ?_; refine (spec_l1val.calls k5 _ _ wr.drew HK5.out).mono ?_; rintro e' wx ⟨rfl, hd⟩; refine ⟨_, rfl, ?_⟩; have hd := hd.below; have HFx := Lib.hid (blk_below (show wr.drew.heap[g9]? = _ from HF.out) hd); have HGx := Lib.hid (blk_below (show wr.drew.heap[g2]? = _ from HG.out) hd); have HBx := Lib.hid (below_then (below_drew HB.out) HB.out.size hd); have HPx := Lib.hid (Kd.R_below (Kd.R_drew HP.out) hd); have HOx := Lib.hid (Kd.R_below (Kd.R_drew HO.out) hd); clear hd; have hcx : wx.cell? ⟨g9, 4, none⟩ = some (.slice A D.length c) := blk_cell HFx.out 4; have hcx2 : (wx.alloc (.cells #[.int .u8 x] 5)).cell? ⟨g9, 4, none⟩ = some (.slice A D.length c) := blk_cell (blk_alloc HFx.out _) 4) | (refine Kd.R_append_step (Kd.int .u8) (w0 := w) w.heap.size (by rfl) (.tmp 77) (.tmp 86) 22 5 (.int .u8 0) 1 (by rfl) Try.underlying22 infoU8w (by rfl) (by decide) (by decide) (.slice A D.length c) D x [.int .u8 x] (fun k => k ≠ gp) (fun _ => False) (by rfl) (by rfl) rfl (fun _ hk => hk.elim) (fun k hk e => by have := Kd.R_lt HPx.out gp rfl; omega) HOx.out HBx.out HBx.out.size (by have := HR9.out.dl; have := HR9.out.nn; have := HJ.out; have := congrArg List.length HD.out; rw [List.length_take] at this; omega) ?_; intro v1 w1 ho hb hg hat; obtain ⟨A1, cA, ev⟩ := Kd.R_slice ho; rw [List.length_append, List.length_singleton] at ev; subst ev; have HFy := Lib.hid (blk_grown HFx.out hg (Kd.R_ne HOx.out HFx.out (by decide))); have HGy := Lib.hid (blk_grown HGx.out hg (Kd.R_ne HOx.out HGx.out (by decide))); have HPy := Lib.hid (Kd.R_grown HPx.out hg (fun k hk e => by rw [hk] at e; exact Kd.R_away HOx.out (fun k hk => hk) e)); have HOy := Lib.hid ho; have HBy := Lib.hid hb; have hcy := blk_cell HFy.out 4; have hfy := blk_frozen HFy.out 4; have HTw := Lib.hid ((Tch.refl1 w1 g9).one 4 (.slice A1 (D.length + 1) cA)); have HPw := Lib.hid (R_tch HPy.out HFy.out (by decide) HTw.out); clear ho hb hg hat))
        all_goals
          go_wp2_with (fail)
          go_roundw
          case rel => exact ⟨j + 1, _, _, _, HJ.out, ⟨HTK.out.symm⟩, rfl, ⟨by rw [HT8.out]; omega⟩, ⟨blk_put HFy.out 4 _ rfl⟩, ⟨R_tch HOy.out HFy.out (by decide) HTw.out⟩, ⟨HPw.out⟩, ⟨HTw.out.blk HGy.out HN29.out⟩, ⟨HTw.out.below HBy.out HBy.out.size (fun k hk => by rw [hk]; exact HE9.out)⟩⟩
          case measure => have h1 := HT.out; have h2 := HT8.out; have h3 := HJ.out; have h4 := HR9.out.nn; simp [intOf]; omega
      · have hw1 : wrap64 (t + 8) = t + 8 := by have := HR9.out.nn; have := HT.out; unfold wrap64; omega
        have c1 : decide (t + 8 ≤ 39 + 8 * (n : Int)) = false := decide_eq_false (by have := HT.out; omega)
        obtain rfl : D = data := by rw [HD.out, List.take_of_length_le (by have := HR9.out.dl; omega)]
        go_wp2_with (first | ((with_reducible refine gate_dst (N := 89) rfl ?_); refine load_box rfl rfl (g := g9) (j := 0) (seg := #[.bool true, .int .u32 i, .bool r, .int .i64 d, .slice A D.length c]) rfl HF.out hu2 (by kernel_rfl) rfl ?_) | ((with_reducible refine gate_store (t := 25) (p := 2) rfl ?_); refine store_box rfl rfl rfl (g := g2) (j := 0) (cs := #[.bool false, .int .u32 0, .bool false, .int .i64 0, .slice none 0 0]) (cs' := #[.bool true, .int .u32 i, .bool r, .int .i64 d, .slice A D.length c]) (T := 25) (u := .agg #[.bool true, .int .u32 i, .bool r, .int .i64 d, .slice A D.length c]) (seg := [.bool true, .int .u32 i, .bool r, .int .i64 d, .slice A D.length c]) rfl rfl HG.out rfl (by kernel_rfl) rfl rfl rfl ?_; intro wz hx hT; have HX := Lib.hid hx; have HBz := Lib.hid (hT.below HB.out HB.out.size (fun k hk => by rw [hk]; exact HE2.out)); have HOz := Lib.hid (R_tch HO.out HG.out (by decide) hT); clear hx hT))
        refine bodyPost_ret (results_ct rfl _ _ g2 25 #[.bool true, .int .u32 i, .bool r, .int .i64 d, .slice A D.length c] (0, 0) _ rfl HX.out Try.underlying25 rfl (by kernel_rfl)) rfl ?_
        exact ⟨_, rfl, Kd.R_mono HOz.out (fun _ _ => trivial), HBz.out⟩
set_option maxRecDepth 20000 in
set_option maxHeartbeats 4000000 in
theorem spec_Decode.liveB (a0 : ByteArray) (w : World) (cc : Int) (hcc : cc = 1 ∨ cc = 2) (p : List Int) (dd : Bool) (k0 : Nat) (hk0 : spec_l1walk.f k0 a0 = some (cc, p, dd)) (r : Bool) (i d : Int) (data : List Int) (n : Nat) (R9 : Reads9 p false r i d data 19 n) :
    Calls Try.prog 45 #[.string a0] w fun e' w' => ∃ v, e' = .returned (.tuple #[.agg #[.bool false, .int .u32 i, .bool r, .int .i64 d, v], .int .i64 cc]) ∧ Kd.R (Kd.int .u8) 5 w' w.heap.size (fun _ => True) v data ∧ Below w.heap.size w w' := by
  obtain ⟨k1, hk1⟩ := R9.lay.rounds
  obtain ⟨k2, hk2⟩ := R9.vd.rounds
  obtain ⟨k3, hk3⟩ := R9.vi.rounds
  rw [if_neg (by decide)] at hk3
  obtain ⟨SD, hSD⟩ : ∃ S, S = strOfNums ((p.take 19).drop (19 - 4)) := ⟨_, rfl⟩
  obtain ⟨SI, hSI⟩ : ∃ S, S = strOfNums ((p.take 12).drop 1) := ⟨_, rfl⟩
  rw [← hSD] at hk2
  rw [← hSI] at hk3
  have HSD := Lib.hid hSD
  have HSI := Lib.hid hSI
  have hlen := R9.len
  have HK0 := Lib.hid hk0
  have HK1 := Lib.hid hk1
  have HK2 := Lib.hid hk2
  have HK3 := Lib.hid hk3
  skip
  have HR9 := Lib.hid R9
  have hu2 := Try.underlying25
  have hdw : IntKind.u32.wrap i = i := by have := R9.i0; rw [IntKind.wrap_u32]; omega
  have HLN := Lib.hid hlen
  clear hk0 hk1 hk2 hk3 R9 hlen hSD hSI
  rcases hcc with rfl | rfl
  all_goals
    go_enter Try.func45, Try.ntmps45
    go_upto_region 5 with (first | ((with_reducible refine gate_dst (N := 2) rfl ?_); refine box_event ?hg (N := 2) ?hd (cs := #[.bool false, .int .u32 0, .bool false, .int .i64 0, .slice none 0 0]) (t := 25) ?hr ?_; (case hd => rfl); (case hg => rfl); (case hr => first | (go_simp; done) | (go_simp; rfl)); intro g2 hg w1 hbox hb; have HG1 := Lib.hid hbox; have HB1 := Lib.hid hb; have HE2 : Hid (w.heap.size ≤ g2) := Lib.hid (by rw [hg]; exact Nat.le_refl _); clear hg hbox hb) | (go_at_call 86; refine (spec_l1walk.calls k0 a0 _ p dd w1 HK0.out).mono ?_; rintro e' w2 ⟨v2, rfl, hr, hb⟩; obtain ⟨gp, cp, rfl, _, _, _⟩ := Kd.R_form hr (by have := HLN.out; omega); have HCP := Lib.hid (Kd.R_reads' hr).2.1; have HG2 := Lib.hid (blk_below HG1.out hb); have HB2 := Lib.hid (below_then HB1.out HB1.out.size hb); have HP2 := Lib.hid (Kd.R_lower hr HB1.out.size); clear hr hb) | (go_at_call 102; refine (spec_l1lay.calls k1 _ _ p _ _ w2 (Kd.R_reads' HP2.out).2.2 HCP.out HK1.out).mono ?_; rintro e' w3 ⟨rfl, hd⟩; have hd := hd.below; have HG3 := Lib.hid (blk_below HG2.out hd); have HB3 := Lib.hid (below_then HB2.out HB2.out.size hd); have HP3 := Lib.hid (Kd.R_below HP2.out hd); clear hd))
    have hw4 : wrap64 (19 - 4) = 15 := by unfold wrap64; decide
    obtain ⟨aD, mD, cD, hcD, hvD⟩ := cut_str (A := some ⟨gp, 0, none⟩) (c := cp) p 15 19 15 19 rfl rfl (by omega) (by have := HLN.out; omega) HCP.out
    have hcvD := (hvD w3 (Kd.R_reads' HP3.out).2.2).trans (by rw [← HSD.out])
    clear hvD
    go_upto_region 6 with (first | (go_at_call 103; refine (spec_l1val.calls k2 _ _ w3 HK2.out).mono ?_; rintro e' w4 ⟨rfl, hd⟩; have hd := hd.below; have HG4 := Lib.hid (blk_below HG3.out hd); have HB4 := Lib.hid (below_then HB3.out HB3.out.size hd); have HP4 := Lib.hid (Kd.R_below HP3.out hd); clear hd) | ((with_reducible refine gate_dst (N := 39) rfl ?_); refine lit_event (T := 5) (cs := #[]) (n := 0) rfl ?hr ?_; (case hr => first | (go_simp; done) | (go_simp; rfl)); intro g0 hg w5 hb; have HEg0 : Hid (w.heap.size ≤ g0 ∧ g0 ≠ gp) := Lib.hid (by rw [hg]; exact ⟨HB4.out.size, fun e => by have := Kd.R_lt HP4.out gp rfl; omega⟩); have HG5 := Lib.hid (blk_below HG4.out hb.2); have HB5 := Lib.hid (below_then HB4.out HB4.out.size hb.2); have HP5 := Lib.hid (Kd.R_below HP4.out hb.2); have HZ5 := Lib.hid hb.1; clear hg hb) | ((with_reducible refine gate_dst (N := 9) rfl ?_); refine box_event ?hg (N := 9) ?hd (cs := #[.bool false, .int .u32 0, .bool false, .int .i64 0, .slice none 0 0]) (t := 25) ?hr ?_; (case hd => rfl); (case hg => rfl); (case hr => first | (go_simp; done) | (go_simp; rfl)); intro g9 hg w6 hbox hb; have HF6 := Lib.hid hbox; have HG6 := Lib.hid (blk_below HG5.out hb); have HN29 : Hid (g2 ≠ g9) := Lib.hid (by rw [hg]; exact Nat.ne_of_lt (blk_lt HG5.out)); have HE9 : Hid (w.heap.size ≤ g9) := Lib.hid (by rw [hg]; exact HB5.out.size); have HB6 := Lib.hid (below_then HB5.out HB5.out.size hb); have HP6 := Lib.hid (Kd.R_below HP5.out hb); have HZ6 := Lib.hid (blk_below HZ5.out hb); clear hg hbox hb) | ((with_reducible refine gate_store (t := 25) (p := 9) rfl ?_); refine store_box rfl rfl rfl (g := g9) (j := 0) (cs := #[.bool false, .int .u32 0, .bool false, .int .i64 0, .slice none 0 0]) (cs' := #[.bool false, .int .u32 0, .bool false, .int .i64 d, .slice (some ⟨g0, 0, none⟩) 0 0]) (T := 25) (u := .agg #[.bool false, .int .u32 0, .bool false, .int .i64 d, .slice (some ⟨g0, 0, none⟩) 0 0]) (seg := [.bool false, .int .u32 0, .bool false, .int .i64 d, .slice (some ⟨g0, 0, none⟩) 0 0]) rfl rfl HF6.out rfl (by kernel_rfl) rfl rfl rfl ?_; intro w7 hx hT; have HF7 := Lib.hid hx; have HG7 := Lib.hid (hT.blk HG6.out HN29.out); have HB7 := Lib.hid (hT.below HB6.out HB6.out.size (fun k hk => by rw [hk]; exact HE9.out)); have HP7 := Lib.hid (R_tch HP6.out HF6.out (by decide) hT); have HZ7 := Lib.hid (hT.blk HZ6.out (fun e => by have := HZ6.out; rw [e, HF6.out] at this; cases this)); clear hx hT))
    obtain ⟨aI, mI, cI, hcI, hvI⟩ := cut_str (A := some ⟨gp, 0, none⟩) (c := cp) p 1 12 1 12 rfl rfl (by omega) (by have := HLN.out; omega) HCP.out
    have hcvI := (hvI w7 (Kd.R_reads' HP7.out).2.2).trans (by rw [← HSI.out])
    have HVI := Lib.hid hvI
    clear hvI
    have q12 : ((12 : Int) < (p.length : Int)) = True := eq_true (by have := HLN.out; omega)
    have q12n : (12 < p.length) = True := eq_true (by have := HLN.out; omega)
    go_upto_region 11 with (first | (go_at_call 103; refine (spec_l1val.calls k3 _ _ w7 HK3.out).mono ?_; rintro e' w8 ⟨rfl, hd⟩; have hd := hd.below; have HF8 := Lib.hid (blk_below HF7.out hd); have HG8 := Lib.hid (blk_below HG7.out hd); have HB8 := Lib.hid (below_then HB7.out HB7.out.size hd); have HP8 := Lib.hid (Kd.R_below HP7.out hd); have HZ8 := Lib.hid (blk_below HZ7.out hd); clear hd) | ((with_reducible refine gate_store (t := 23) (p := 46) rfl ?_); refine store_box rfl rfl rfl (g := g9) (j := 1) (cs := #[.bool false, .int .u32 0, .bool false, .int .i64 d, .slice (some ⟨g0, 0, none⟩) 0 0]) (cs' := #[.bool false, .int .u32 i, .bool false, .int .i64 d, .slice (some ⟨g0, 0, none⟩) 0 0]) (T := 25) (u := .int .u32 i) (seg := [.int .u32 i]) rfl rfl HF8.out rfl (by kernel_rfl) rfl rfl rfl ?_; intro w9 hx hT; have HF9 := Lib.hid hx; have HG9 := Lib.hid (hT.blk HG8.out HN29.out); have HB9 := Lib.hid (hT.below HB8.out HB8.out.size (fun k hk => by rw [hk]; exact HE9.out)); have HP9 := Lib.hid (R_tch HP8.out HF8.out (by decide) hT); have HZ9 := Lib.hid (hT.blk HZ8.out (fun e => by have := HZ8.out; rw [e, HF8.out] at this; cases this)); have HX12 := Lib.hid (R_cells HP9.out 12 (by have := HLN.out; omega)); clear hx hT) | ((with_reducible refine gate_store (t := 4) (p := 51) rfl ?_); refine store_box rfl rfl rfl (g := g9) (j := 2) (cs := #[.bool false, .int .u32 i, .bool false, .int .i64 d, .slice (some ⟨g0, 0, none⟩) 0 0]) (cs' := #[.bool false, .int .u32 i, .bool (rd p 12 == 49), .int .i64 d, .slice (some ⟨g0, 0, none⟩) 0 0]) (T := 25) (u := .bool (rd p 12 == 49)) (seg := [.bool (rd p 12 == 49)]) rfl rfl HF9.out rfl (by kernel_rfl) rfl rfl rfl ?_; intro wa hx hT; have HFa := Lib.hid hx; have HGa := Lib.hid (hT.blk HG9.out HN29.out); have HBa := Lib.hid (hT.below HB9.out HB9.out.size (fun k hk => by rw [hk]; exact HE9.out)); have HPa := Lib.hid (R_tch HP9.out HF9.out (by decide) hT); have HZa := Lib.hid (hT.blk HZ9.out (fun e => by have := HZ9.out; rw [e, HF9.out] at this; cases this)); clear hx hT) | ((with_reducible refine gate_dst (N := 49) rfl ?_); refine load_at rfl rfl (x := ⟨gp, 12, none⟩) (v := .int .u8 (rd p 12)) rfl HX12.out Try.underlying5 rfl ?_) | ((with_reducible refine gate_dst (N := 53) rfl ?_); refine load_cell rfl rfl (g := g9) (j := 0) rfl HFa.out rfl Try.underlying4 rfl ?_))
    rw [← HR9.out.rb rfl] at HFa
    clear q12 q12n hcvD hcvI hcD hcI hw4 hdw
    have HV0 : Hid (Kd.R (Kd.int .u8) 5 wa w.heap.size (fun k => k ≠ gp) (.slice (some ⟨g0, 0, none⟩) 0 0) (data.take 0)) := Lib.hid (R_lit0 HZa.out HEg0.out)
    clear HZa
    have HPz := Lib.hid (Kd.R_mono (Kd.R_tight (d := Kd.int .u8) rfl HPa.out) (fun k hk => (show k = gp by simpa [Value.ownBlock] using hk)))
    clear HPa
    go_wp2_with (fail)
    go_loopw [10] (fun v10 wr => ∃ (j : Nat) (t : Int) (v : Value) (D : List Int), j ≤ n ∧ Aside0 (D = data.take j) ∧ v10 = .int .i64 t ∧ Aside0 (t = (19 : Int) + 8 * (j : Int)) ∧ Aside0 (wr.heap[g9]? = some (.cells #[.bool false, .int .u32 i, .bool r, .int .i64 d, v] 25 (0, 0))) ∧ Aside0 (Kd.R (Kd.int .u8) 5 wr w.heap.size (fun k => k ≠ gp) v D) ∧ Aside0 (Kd.R (Kd.int .u8) 5 wr w.heap.size (fun k => k = gp) (.slice (some ⟨gp, 0, none⟩) p.length cp) p) ∧ Aside0 (wr.heap[g2]? = some (.cells #[.bool false, .int .u32 0, .bool false, .int .i64 0, .slice none 0 0] 25 (0, 0))) ∧ Aside0 (Below w.heap.size w wr)) (fun v10 _ => 8 * n + 60 - (intOf v10).toNat)
    case atStart => exact ⟨0, _, _, _, Nat.zero_le _, ⟨rfl⟩, rfl, ⟨rfl⟩, ⟨HFa.out⟩, ⟨HV0.out⟩, ⟨HPz.out⟩, ⟨HGa.out⟩, ⟨HBa.out⟩⟩
    case round =>
      clear HFa HV0 HPz HGa HBa
      obtain ⟨j, t, v, D, hj, HD, rfl, HT, HF, HO, HP, HG, HB⟩ := hrel
      obtain ⟨A, c, rfl⟩ := Kd.R_slice HO.out
      by_cases hlt : j < n
      · obtain ⟨t8, ht8⟩ : ∃ t8 : Int, t8 = 27 + 8 * (j : Int) := ⟨_, rfl⟩
        have hw1 : wrap64 (t + 8) = t8 := by have := HR9.out.nn; have := HT.out; unfold wrap64; omega
        have c1 : decide (t8 ≤ 19 + 8 * (n : Int)) = true := decide_eq_true (by omega)
        obtain ⟨x, hev, htk, hx0, hx1⟩ := HR9.out.v8 j hlt
        obtain ⟨k5, hk5⟩ := hev.rounds
        obtain ⟨aC, mC, cC, hcC, hvC⟩ := cut_str (A := some ⟨gp, 0, none⟩) (c := cp) p (19 + 8 * j) (19 + 8 * j + 8) t t8 (by have := HT.out; omega) (by omega) (by omega) (by have := HLN.out; omega) HCP.out
        have hw2 : IntKind.i64.wrap (t + 8) = t8 := by have h := hw1; unfold wrap64 at h; rw [IntKind.wrap_i64]; exact h
        have HT8 := Lib.hid ht8
        clear ht8
        obtain ⟨SC, hSC⟩ : ∃ S, S = strOfNums ((p.take (19 + 8 * j + 8)).drop (19 + 8 * j)) := ⟨_, rfl⟩
        rw [← hSC] at hk5 hvC
        have HVC := Lib.hid hvC
        have HK5 := Lib.hid hk5
        have HTK : Hid (data.take (j + 1) = D ++ [x]) := Lib.hid (by rw [HD.out, htk, Int.emod_eq_of_lt hx0 hx1])
        have hw8 : IntKind.u8.wrap x = x := by rw [IntKind.wrap_u8]; omega
        have hc4 : wr.cell? ⟨g9, 4, none⟩ = some (.slice A D.length c) := blk_cell HF.out 4
        have HJ := Lib.hid hlt
        clear hSC hvC hk5 hev htk hx0 hx1 hj
        go_upto_region 14 with (fail)
        have hcvC := HVC.out wr.drew (show Kd.C (Kd.int .u8) wr.drew (some ⟨gp, 0, none⟩) p.length p from (Kd.R_reads' HP.out).2.2)
        go_region_law (first | (refine goes_ Try.func103 (by kernel_rfl) rfl #[.string SC] (by rfl) (by rfl) (by rfl) (by simp only [List.map_toArray, List.map_cons, List.map_nil]; rfl) ?_; refine (spec_l1val.calls k5 _ _ wr.drew HK5.out).mono ?_; rintro e' wx ⟨rfl, hd⟩; refine ⟨_, rfl, ?_⟩; have hd := hd.below; have HFx := Lib.hid (blk_below (show wr.drew.heap[g9]? = _ from HF.out) hd); have HGx := Lib.hid (blk_below (show wr.drew.heap[g2]? = _ from HG.out) hd); have HBx := Lib.hid (below_then (below_drew HB.out) HB.out.size hd); have HPx := Lib.hid (Kd.R_below (Kd.R_drew HP.out) hd); have HOx := Lib.hid (Kd.R_below (Kd.R_drew HO.out) hd); clear hd; have hcx : wx.cell? ⟨g9, 4, none⟩ = some (.slice A D.length c) := blk_cell HFx.out 4; have hcx2 : (wx.alloc (.cells #[.int .u8 x] 5)).cell? ⟨g9, 4, none⟩ = some (.slice A D.length c) := blk_cell (blk_alloc HFx.out _) 4) | (refine Kd.R_append_step (Kd.int .u8) (w0 := w) w.heap.size (by rfl) (.tmp 77) (.tmp 86) 22 5 (.int .u8 0) 1 (by rfl) Try.underlying22 infoU8w (by rfl) (by decide) (by decide) (.slice A D.length c) D x [.int .u8 x] (fun k => k ≠ gp) (fun _ => False) (by rfl) (by rfl) rfl (fun _ hk => hk.elim) (fun k hk e => by have := Kd.R_lt HPx.out gp rfl; omega) HOx.out HBx.out HBx.out.size (by have := HR9.out.dl; have := HR9.out.nn; have := HJ.out; have := congrArg List.length HD.out; rw [List.length_take] at this; omega) ?_; intro v1 w1 ho hb hg hat; obtain ⟨A1, cA, ev⟩ := Kd.R_slice ho; rw [List.length_append, List.length_singleton] at ev; subst ev; have HFy := Lib.hid (blk_grown HFx.out hg (Kd.R_ne HOx.out HFx.out (by decide))); have HGy := Lib.hid (blk_grown HGx.out hg (Kd.R_ne HOx.out HGx.out (by decide))); have HPy := Lib.hid (Kd.R_grown HPx.out hg (fun k hk e => by rw [hk] at e; exact Kd.R_away HOx.out (fun k hk => hk) e)); have HOy := Lib.hid ho; have HBy := Lib.hid hb; have hcy := blk_cell HFy.out 4; have hfy := blk_frozen HFy.out 4; have HTw := Lib.hid ((Tch.refl1 w1 g9).one 4 (.slice A1 (D.length + 1) cA)); have HPw := Lib.hid (R_tch HPy.out HFy.out (by decide) HTw.out); clear ho hb hg hat))
        all_goals
          go_wp2_with (fail)
          go_roundw
          case rel => exact ⟨j + 1, _, _, _, HJ.out, ⟨HTK.out.symm⟩, rfl, ⟨by rw [HT8.out]; omega⟩, ⟨blk_put HFy.out 4 _ rfl⟩, ⟨R_tch HOy.out HFy.out (by decide) HTw.out⟩, ⟨HPw.out⟩, ⟨HTw.out.blk HGy.out HN29.out⟩, ⟨HTw.out.below HBy.out HBy.out.size (fun k hk => by rw [hk]; exact HE9.out)⟩⟩
          case measure => have h1 := HT.out; have h2 := HT8.out; have h3 := HJ.out; have h4 := HR9.out.nn; simp [intOf]; omega
      · have hw1 : wrap64 (t + 8) = t + 8 := by have := HR9.out.nn; have := HT.out; unfold wrap64; omega
        have c1 : decide (t + 8 ≤ 19 + 8 * (n : Int)) = false := decide_eq_false (by have := HT.out; omega)
        obtain rfl : D = data := by rw [HD.out, List.take_of_length_le (by have := HR9.out.dl; omega)]
        go_wp2_with (first | ((with_reducible refine gate_dst (N := 89) rfl ?_); refine load_box rfl rfl (g := g9) (j := 0) (seg := #[.bool false, .int .u32 i, .bool r, .int .i64 d, .slice A D.length c]) rfl HF.out hu2 (by kernel_rfl) rfl ?_) | ((with_reducible refine gate_store (t := 25) (p := 2) rfl ?_); refine store_box rfl rfl rfl (g := g2) (j := 0) (cs := #[.bool false, .int .u32 0, .bool false, .int .i64 0, .slice none 0 0]) (cs' := #[.bool false, .int .u32 i, .bool r, .int .i64 d, .slice A D.length c]) (T := 25) (u := .agg #[.bool false, .int .u32 i, .bool r, .int .i64 d, .slice A D.length c]) (seg := [.bool false, .int .u32 i, .bool r, .int .i64 d, .slice A D.length c]) rfl rfl HG.out rfl (by kernel_rfl) rfl rfl rfl ?_; intro wz hx hT; have HX := Lib.hid hx; have HBz := Lib.hid (hT.below HB.out HB.out.size (fun k hk => by rw [hk]; exact HE2.out)); have HOz := Lib.hid (R_tch HO.out HG.out (by decide) hT); clear hx hT))
        refine bodyPost_ret (results_ct rfl _ _ g2 25 #[.bool false, .int .u32 i, .bool r, .int .i64 d, .slice A D.length c] (0, 0) _ rfl HX.out Try.underlying25 rfl (by kernel_rfl)) rfl ?_
        exact ⟨_, rfl, Kd.R_mono HOz.out (fun _ _ => trivial), HBz.out⟩
theorem spec_Decode.calls (a0 : ByteArray) (r1 : Bool) (r2 : Int) (r3 : Bool) (r4 : Int) (r5 : List Int) (r6 : Int) (w : World) (h : spec_Decode.f a0 = some (r1, r2, r3, r4, r5, r6)) :
    Calls Try.prog 45 #[.string a0] w fun e w' => ∃ v4_ : Value, e = .returned (.tuple #[.agg #[.bool r1, .int .u32 r2, .bool r3, .int .i64 r4, v4_], .int .i64 r6]) ∧ Kd.R (Kd.int .u8) 5 w' w.heap.size (fun _ => True) v4_ r5 ∧ Below w.heap.size w w' := by
  unfold spec_Decode.f decodeV at h
  have h := Option.some.inj h
  obtain ⟨⟨c, p, dd⟩, hR, hS⟩ := specwalk_ev a0
  obtain ⟨k0, hk0⟩ := hR.rounds
  have hc : c = (walkV a0).code := hS.code
  by_cases hl : (walkV a0).code = 1 ∨ (walkV a0).code = 2
  · rw [if_pos hl] at h
    simp only [Prod.mk.injEq] at h
    obtain ⟨rfl, rfl, rfl, rfl, rfl, rfl⟩ := h
    obtain ⟨H, D, X, R, e, r, i, K⟩ := hS.dec hl
    obtain ⟨n, hh, R9⟩ := reads9 K (Nat.le_succ_of_le hS.len)
    have hhh := R9.hh
    cases he : (walkV a0).ext with
    | true =>
      rw [he] at R9 hhh
      rw [if_pos rfl] at hhh
      subst hhh
      rw [← hc]
      exact spec_Decode.liveX a0 w c (by rw [hc]; exact hl) p dd k0 hk0 _ _ _ _ n R9
    | false =>
      rw [he] at R9 hhh
      rw [if_neg (by decide)] at hhh
      subst hhh
      rw [← hc]
      exact spec_Decode.liveB a0 w c (by rw [hc]; exact hl) p dd k0 hk0 _ _ _ _ n R9
  · rw [if_neg hl] at h
    simp only [Prod.mk.injEq] at h
    obtain ⟨rfl, rfl, rfl, rfl, rfl, rfl⟩ := h
    rw [← hc]
    refine (spec_Decode.other a0 w c (by rw [hc]; omega) (by rw [hc]; omega) p dd k0 hk0).mono ?_
    rintro e' w' ⟨rfl, hb⟩
    exact ⟨_, rfl, Kd.R_nil _ _ _ _ _, hb⟩
end Go.Proofs.Ytdoclpgciadjaaa.P

namespace Go.Proofs.Ytdoclpgciadjaaa.P
open Go.RowKit Go.Proofs.YtdoclpgciadjaaaW.PrintWords Go.Proofs.YtdoclpgciadjaaaW.PrintLast Go.Proofs.YtdoclpgciadjaaaW.PrintMore
set_option linter.unusedVariables false
set_option linter.unusedSimpArgs false
def laws_heldByteS.l0 : Nat → List Int → Int → Int → Option (Int)
  | 0, _, _, _ => none
  | k + 1, x0, x1, x5 => if x5 < (x0.length : Int) then (if 0 ≤ x5 then (if (rd x0 x5) = ((x1) % 256) then (laws_heldByteS.l0 k x0 (wrap64 (x1 + 1)) (wrap64 (x5 + 1))) else (some (-1))) else (none)) else (some x1)
def laws_heldByteS.f (k : Nat) (l0 : List Int) (a1 : Int) : Option (Int) := laws_heldByteS.l0 k l0 a1 0
theorem laws_heldByteS.mono_l : ∀ k, (∀ y0 y1 y2, LeO (laws_heldByteS.l0 k y0 y1 y2) (laws_heldByteS.l0 (k + 1) y0 y1 y2))
  | 0 => fun _ _ _ r h => by simp [laws_heldByteS.l0] at h
  | k + 1 => by
    have ih0 := laws_heldByteS.mono_l k
    · intro y0 y1 y2
      unfold laws_heldByteS.l0
      repeat' first
      | (with_reducible exact ih0 _ _ _)
      | (with_reducible exact LeO.refl _)
      | (with_reducible exact LeO.none _)
      | (with_reducible refine LeO.ite ?_ ?_)
      | (with_reducible refine LeO.bind ?_ (fun _ => ?_))
      | exact ih0 _ _ _
      | exact LeO.none _
      | refine LeO.ite ?_ ?_
      | refine LeO.bind ?_ (fun _ => ?_)
theorem laws_heldByteS.mono : ∀ a0 a1 k, LeO (laws_heldByteS.f k a0 a1) (laws_heldByteS.f (k + 1) a0 a1) := by
  intro a0 a1 k
  have ih0 := laws_heldByteS.mono_l k
  unfold laws_heldByteS.f
  repeat' first
      | (with_reducible exact ih0 _ _ _)
      | (with_reducible exact LeO.refl _)
      | (with_reducible exact LeO.none _)
      | (with_reducible refine LeO.ite ?_ ?_)
      | (with_reducible refine LeO.bind ?_ (fun _ => ?_))
      | exact ih0 _ _ _
      | exact LeO.none _
      | refine LeO.ite ?_ ?_
      | refine LeO.bind ?_ (fun _ => ?_)
set_option maxHeartbeats 8000000 in
set_option maxRecDepth 100000 in
theorem laws_heldByteS.calls (k : Nat) (A0 : Option Addr) (c0 : Nat) (l0 : List Int) (a1 : Int) (r : Int) (w : World) (hr0 : Kd.C (Kd.int .u8) w A0 l0.length l0) (hc0 : l0.length ≤ c0) (h : laws_heldByteS.f k l0 a1 = some r) :
    Calls Try.prog 104 #[.slice A0 l0.length c0, .int .i64 a1] w fun e w' => e = .returned (.int .i64 r) ∧ Drawn0 w w' := by
  have HR0 := Aside0.mk hr0
  have HC0 := Aside0.mk hc0
  clear hr0 hc0
  have H : (laws_heldByteS.l0 k l0 a1 0) = some r := h
  clear h
  have H' := Aside0.mk H
  clear H
  go_enter Try.func104, Try.ntmps104
  go_wp2
  go_loopg [1, 5] k (fun kq v1 v5 w' => ∃ (x1_1 : Int) (x5_1 : Int), v1 = .int .i64 x1_1 ∧ v5 = .int .i64 x5_1 ∧ Aside0 (laws_heldByteS.l0 kq l0 x1_1 x5_1 = some r) ∧ Aside0 (kq ≤ k) ∧ Drawn0 w w')
  case atStart => exact ⟨(a1), (0), (by first | rfl | (simp; done) | (simp [*]; done)), (by first | rfl | (simp; done) | (simp [*]; done)), H', ⟨Nat.le_refl _⟩, by repeat (first | exact Drawn0.refl _ | apply Drawn0.step)⟩
  case round =>
    clear H'
    try clear c1
    try clear p2
    obtain ⟨x1_1, x5_1, rfl, rfl, HA, HK1, ⟨m1, rfl⟩⟩ := hrel
    cases gk with
    | zero => exact absurd HA.out (by simp [laws_heldByteS.l0])
    | succ k1 =>
      have H := HA.out
      clear HA
      simp only [laws_heldByteS.l0] at H
      by_cases c3 : x5_1 < (l0.length : Int)
      · rw [if_pos c3] at H
        have c3b0 : decide (x5_1 < (l0.length : Int)) = true := decide_eq_true c3
        clear c3
        by_cases c4 : 0 ≤ x5_1
        · rw [if_pos c4] at H
          have c4b0 : decide (0 ≤ x5_1) = true := decide_eq_true c4
          clear c4
          by_cases c5 : (rd l0 x5_1) = ((x1_1) % 256)
          · rw [if_pos c5] at H
            have c5b0 : ((rd l0 x5_1) == ((x1_1) % 256)) = true := beq_iff_eq.mpr c5
            have c5b1 : ((rd l0 x5_1) != ((x1_1) % 256)) = false := bne_eq_false_iff_eq.mpr c5
            clear c5
            have H' := Aside0.mk H
            clear H
            have p187 : 0 ≤ (x5_1 : Int) := of_decide_eq_true (by first | (with_reducible assumption) | assumption)
            have q187 : x5_1 < (l0.length : Int) := of_decide_eq_true (by first | (with_reducible assumption) | assumption)
            obtain ⟨ad187, e187, hx187_0⟩ := Kd.at_int HR0.out x5_1 p187 q187
            cases e187
            replace p187 := eq_true p187
            replace q187 := eq_true q187
            go_wp2
            go_roundg k1
            case measure => have := HK1.out; omega
            case rel => exact ⟨(wrap64 (x1_1 + 1)), (wrap64 (x5_1 + 1)), (by first | rfl | (simp; done) | (simp [*]; done)), (by first | rfl | (simp; done) | (simp [*]; done)), H', ⟨by have := HK1.out; omega⟩, by repeat (first | exact Drawn0.refl _ | apply Drawn0.step)⟩
          · rw [if_neg c5] at H
            have c5b0 : ((rd l0 x5_1) == ((x1_1) % 256)) = false := beq_eq_false_iff_ne.mpr c5
            have c5b1 : ((rd l0 x5_1) != ((x1_1) % 256)) = true := bne_iff_ne.mpr c5
            obtain rfl := Option.some.inj H
            have p187 : 0 ≤ (x5_1 : Int) := of_decide_eq_true (by first | (with_reducible assumption) | assumption)
            have q187 : x5_1 < (l0.length : Int) := of_decide_eq_true (by first | (with_reducible assumption) | assumption)
            obtain ⟨ad187, e187, hx187_0⟩ := Kd.at_int HR0.out x5_1 p187 q187
            cases e187
            replace p187 := eq_true p187
            replace q187 := eq_true q187
            go_wp2
            go_ret
            exact ⟨by first | rfl | (simp; done) | (simp [*]; done), by repeat (first | exact Drawn0.refl _ | apply Drawn0.step)⟩
        · rw [if_neg c4] at H
          exact absurd H (by simp)
      · rw [if_neg c3] at H
        have c3b0 : decide (x5_1 < (l0.length : Int)) = false := decide_eq_false c3
        clear c3
        obtain rfl := Option.some.inj H
        go_wp2
        go_ret
        exact ⟨by first | rfl | (simp; done) | (simp [*]; done), by repeat (first | exact Drawn0.refl _ | apply Drawn0.step)⟩
end Go.Proofs.Ytdoclpgciadjaaa.P

namespace Go.Proofs.Ytdoclpgciadjaaa.P
open Go.RowKit Go.Proofs.YtdoclpgciadjaaaW.PrintWords Go.Proofs.YtdoclpgciadjaaaW.PrintLast Go.Proofs.YtdoclpgciadjaaaW.PrintMore
set_option linter.unusedVariables false
set_option linter.unusedSimpArgs false
def laws_heldFrame.f (k : Nat) (a0_0 : Bool) (a0_1 : Int) (a0_2 : Bool) (a0_3 : Int) (l0_4 : List Int) (a1 : Int) : Option (Int) := (laws_heldByteS.f k l0_4 a1).bind fun t189 => (if t189 < 0 then (some (-1)) else (some t189))
theorem laws_heldFrame.mono : ∀ a0 a1 a2 a3 a4 a5 k, LeO (laws_heldFrame.f k a0 a1 a2 a3 a4 a5) (laws_heldFrame.f (k + 1) a0 a1 a2 a3 a4 a5) := by
  intro a0 a1 a2 a3 a4 a5 k
  unfold laws_heldFrame.f
  repeat' first
      | (with_reducible exact laws_heldByteS.mono _ _ _)
      | (with_reducible exact LeO.refl _)
      | (with_reducible exact LeO.none _)
      | (with_reducible refine LeO.ite ?_ ?_)
      | (with_reducible refine LeO.bind ?_ (fun _ => ?_))
      | exact laws_heldByteS.mono _ _ _
      | exact LeO.none _
      | refine LeO.ite ?_ ?_
      | refine LeO.bind ?_ (fun _ => ?_)
set_option maxHeartbeats 8000000 in
set_option maxRecDepth 100000 in
theorem laws_heldFrame.calls (k : Nat) (a0_0 : Bool) (a0_1 : Int) (a0_2 : Bool) (a0_3 : Int) (A0_4 : Option Addr) (c0_4 : Nat) (l0_4 : List Int) (a1 : Int) (r : Int) (w : World) (hr0_4 : Kd.C (Kd.int .u8) w A0_4 l0_4.length l0_4) (hc0_4 : l0_4.length ≤ c0_4) (h : laws_heldFrame.f k a0_0 a0_1 a0_2 a0_3 l0_4 a1 = some r) :
    Calls Try.prog 46 #[.agg #[.bool a0_0, .int .u32 a0_1, .bool a0_2, .int .i64 a0_3, .slice A0_4 l0_4.length c0_4], .int .i64 a1] w fun e w' => e = .returned (.int .i64 r) ∧ Below w.heap.size w w' := by
  have hu25 := Try.underlying25
  have HR0_4 := Aside0.mk hr0_4
  have HC0_4 := Aside0.mk hc0_4
  clear hr0_4 hc0_4
  have HB := Aside0.mk (Below.refl w.heap.size w)
  have H : ((laws_heldByteS.f k l0_4 a1).bind fun t189 => (if t189 < 0 then (some (-1)) else (some t189))) = some r := h
  clear h
  replace H := Option.bind_eq_some_iff.mp H
  obtain ⟨t189, A30, H⟩ := H
  replace H : (if t189 < 0 then (some (-1)) else (some t189)) = some r := H
  have A3 := Aside0.mk A30
  clear A30
  by_cases c4 : t189 < 0
  · rw [if_pos c4] at H
    have c4b0 : decide (t189 < 0) = true := decide_eq_true c4
    clear c4
    obtain rfl := Option.some.inj H
    go_enter Try.func46, Try.ntmps46
    go_wp2_with (first | ((with_reducible refine gate_dst (N := 2) rfl ?_); refine box_event ?hg (N := 2) ?hd (cs := #[.bool a0_0, .int .u32 a0_1, .bool a0_2, .int .i64 a0_3, .slice A0_4 l0_4.length c0_4]) (t := 25) ?hr ?_; (case hd => rfl); (case hg => rfl); (case hr => first | (go_simp; done) | (go_simp; rfl)); intro gb188 hg w5 hbox hb; have n0_ := Aside0.mk (below_step (by repeat (first | (with_reducible first | exact HB.out | apply below_alloc | apply pw_below_drewN | apply below_drew1) | exact HB.out)) hb); have n1_ := Aside0.mk (hbox); have n2_ := Aside0.mk ((by rw [hg]; exact (below_size (by repeat (first | (with_reducible first | exact HB.out | apply below_alloc | apply pw_below_drewN | apply below_drew1) | exact HB.out))) : w.heap.size ≤ gb188)); have n3_ := Aside0.mk ((by rw [hg]; exact (below_size (by repeat (first | (with_reducible first | exact HB.out | apply below_alloc | apply pw_below_drewN | apply below_drew1) | exact HB.out))) : w.heap.size ≤ gb188)); clear HB; have HB := n0_; have BK188 := n1_; have GW188 := n2_; have GE188 := n3_; clear n0_ n1_ n2_ n3_; clear hb hbox hg; have hcz6_0 : w5.cell? ⟨gb188, 0, none⟩ = some (.bool a0_0) := (blk_cell BK188.out 0).trans rfl; have hcz6_1 : w5.cell? ⟨gb188, 1, none⟩ = some (.int .u32 a0_1) := (blk_cell BK188.out 1).trans rfl; have hcz6_2 : w5.cell? ⟨gb188, 2, none⟩ = some (.bool a0_2) := (blk_cell BK188.out 2).trans rfl; have hcz6_3 : w5.cell? ⟨gb188, 3, none⟩ = some (.int .i64 a0_3) := (blk_cell BK188.out 3).trans rfl; have hcz6_4 : w5.cell? ⟨gb188, 4, none⟩ = some (.slice A0_4 l0_4.length c0_4) := (blk_cell BK188.out 4).trans rfl; have hfz6_0 := blk_frozen BK188.out 0; have hfz6_1 := blk_frozen BK188.out 1; have hfz6_2 := blk_frozen BK188.out 2; have hfz6_3 := blk_frozen BK188.out 3; have hfz6_4 := blk_frozen BK188.out 4) | ((with_reducible refine gate_callee (f := 104) rfl ?_); refine goesL_ (some 8) rfl rfl Try.func104 (by kernel_rfl) rfl #[.slice A0_4 l0_4.length c0_4, .int .i64 a1] rfl (by (try simp only [List.map_toArray, List.map_cons, List.map_nil]); first | done | rfl | (simp only [List.length_drop, List.length_take]; rfl)) ?_; (with_reducible refine (laws_heldByteS.calls k _ _ l0_4 a1 t189 _ ?side1 ?side2 A3.out).mono ?_); (case side1 => repeat (first | exact (Kd.C_below HR0_4.out HB.out) | (with_reducible refine Kd.C_alloc ?_ _) | (with_reducible refine Kd.C_drewN ?_ _) | (with_reducible refine Kd.C_drew ?_))); (case side2 => exact HC0_4.out); rintro e w' ⟨rfl, ⟨nd, rfl⟩⟩; refine ⟨_, rfl, ?_⟩))
    go_ret
    exact ⟨by first | rfl | (simp [errW_none, errW_some] <;> rfl) | (simp [*, errW_none, errW_some] <;> rfl), by repeat (first | (with_reducible first | exact HB.out | apply below_alloc | apply pw_below_drewN | apply below_drew1 | refine below_set ?_ GE188.out) | exact HB.out)⟩
  · rw [if_neg c4] at H
    have c4b0 : decide (t189 < 0) = false := decide_eq_false c4
    clear c4
    obtain rfl := Option.some.inj H
    go_enter Try.func46, Try.ntmps46
    go_wp2_with (first | ((with_reducible refine gate_dst (N := 2) rfl ?_); refine box_event ?hg (N := 2) ?hd (cs := #[.bool a0_0, .int .u32 a0_1, .bool a0_2, .int .i64 a0_3, .slice A0_4 l0_4.length c0_4]) (t := 25) ?hr ?_; (case hd => rfl); (case hg => rfl); (case hr => first | (go_simp; done) | (go_simp; rfl)); intro gb188 hg w7 hbox hb; have n0_ := Aside0.mk (below_step (by repeat (first | (with_reducible first | exact HB.out | apply below_alloc | apply pw_below_drewN | apply below_drew1) | exact HB.out)) hb); have n1_ := Aside0.mk (hbox); have n2_ := Aside0.mk ((by rw [hg]; exact (below_size (by repeat (first | (with_reducible first | exact HB.out | apply below_alloc | apply pw_below_drewN | apply below_drew1) | exact HB.out))) : w.heap.size ≤ gb188)); have n3_ := Aside0.mk ((by rw [hg]; exact (below_size (by repeat (first | (with_reducible first | exact HB.out | apply below_alloc | apply pw_below_drewN | apply below_drew1) | exact HB.out))) : w.heap.size ≤ gb188)); clear HB; have HB := n0_; have BK188 := n1_; have GW188 := n2_; have GE188 := n3_; clear n0_ n1_ n2_ n3_; clear hb hbox hg; have hcz8_0 : w7.cell? ⟨gb188, 0, none⟩ = some (.bool a0_0) := (blk_cell BK188.out 0).trans rfl; have hcz8_1 : w7.cell? ⟨gb188, 1, none⟩ = some (.int .u32 a0_1) := (blk_cell BK188.out 1).trans rfl; have hcz8_2 : w7.cell? ⟨gb188, 2, none⟩ = some (.bool a0_2) := (blk_cell BK188.out 2).trans rfl; have hcz8_3 : w7.cell? ⟨gb188, 3, none⟩ = some (.int .i64 a0_3) := (blk_cell BK188.out 3).trans rfl; have hcz8_4 : w7.cell? ⟨gb188, 4, none⟩ = some (.slice A0_4 l0_4.length c0_4) := (blk_cell BK188.out 4).trans rfl; have hfz8_0 := blk_frozen BK188.out 0; have hfz8_1 := blk_frozen BK188.out 1; have hfz8_2 := blk_frozen BK188.out 2; have hfz8_3 := blk_frozen BK188.out 3; have hfz8_4 := blk_frozen BK188.out 4) | ((with_reducible refine gate_callee (f := 104) rfl ?_); refine goesL_ (some 8) rfl rfl Try.func104 (by kernel_rfl) rfl #[.slice A0_4 l0_4.length c0_4, .int .i64 a1] rfl (by (try simp only [List.map_toArray, List.map_cons, List.map_nil]); first | done | rfl | (simp only [List.length_drop, List.length_take]; rfl)) ?_; (with_reducible refine (laws_heldByteS.calls k _ _ l0_4 a1 t189 _ ?side1 ?side2 A3.out).mono ?_); (case side1 => repeat (first | exact (Kd.C_below HR0_4.out HB.out) | (with_reducible refine Kd.C_alloc ?_ _) | (with_reducible refine Kd.C_drewN ?_ _) | (with_reducible refine Kd.C_drew ?_))); (case side2 => exact HC0_4.out); rintro e w' ⟨rfl, ⟨nd, rfl⟩⟩; refine ⟨_, rfl, ?_⟩))
    go_ret
    exact ⟨by first | rfl | (simp [errW_none, errW_some] <;> rfl) | (simp [*, errW_none, errW_some] <;> rfl), by repeat (first | (with_reducible first | exact HB.out | apply below_alloc | apply pw_below_drewN | apply below_drew1 | refine below_set ?_ GE188.out) | exact HB.out)⟩
end Go.Proofs.Ytdoclpgciadjaaa.P
