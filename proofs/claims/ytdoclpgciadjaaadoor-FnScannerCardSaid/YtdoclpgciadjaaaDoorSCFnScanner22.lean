/- Texts of the proof of CFnScanner, joined. -/
import Derived.Test.YtdoclpgciadjaaaDoorSCFnScanner21
import Derived.Laws.BitsLemmas
import Derived.Laws.BitsAllLaws
import Derived.Deep.RegionHeld3
namespace Go.Proofs.YtdoclpgciadjaaaDoor.P
open Go.RowKit Go.Proofs.YtdoclpgciadjaaaDoorW.PrintWords Go.Proofs.YtdoclpgciadjaaaDoorW.PrintLast Go.Proofs.YtdoclpgciadjaaaDoorW.PrintMore
set_option linter.unusedVariables false
set_option linter.unusedSimpArgs false
theorem cSall {w : World} {p : Nat} {s : SS} {v : Value} (h : w.heap[p]? = some (objS s v)) : w.cell? ⟨p,0,none⟩ = some (.int .i64 s.field) ∧ w.cell? ⟨p,1,none⟩ = some (.int .i64 s.left) ∧ w.cell? ⟨p,2,none⟩ = some (.int .i64 s.run) ∧ w.cell? ⟨p,3,none⟩ = some (.int .i64 s.level) ∧ w.cell? ⟨p,4,none⟩ = some (.int .i64 s.crc) ∧ w.cell? ⟨p,5,none⟩ = some (.int .i64 s.acc) ∧ w.cell? ⟨p,6,none⟩ = some (.bool s.ext) ∧ w.cell? ⟨p,7,none⟩ = some (.int .u32 s.id) ∧ w.cell? ⟨p,8,none⟩ = some (.bool s.rtr) ∧ w.cell? ⟨p,9,none⟩ = some (.int .i64 s.dlc) ∧ w.cell? ⟨p,10,none⟩ = some v :=
 ⟨cS0 h,cS1 h,cS2 h,cS3 h,cS4 h,cS5 h,cS6 h,cS7 h,cS8 h,cS9 h,cS10 h⟩
theorem fSall {w : World} {p : Nat} {s : SS} {v : Value} (h : w.heap[p]? = some (objS s v)) : w.frozen? ⟨p,0,none⟩ = false ∧ w.frozen? ⟨p,1,none⟩ = false ∧ w.frozen? ⟨p,2,none⟩ = false ∧ w.frozen? ⟨p,3,none⟩ = false ∧ w.frozen? ⟨p,4,none⟩ = false ∧ w.frozen? ⟨p,5,none⟩ = false ∧ w.frozen? ⟨p,6,none⟩ = false ∧ w.frozen? ⟨p,7,none⟩ = false ∧ w.frozen? ⟨p,8,none⟩ = false ∧ w.frozen? ⟨p,9,none⟩ = false ∧ w.frozen? ⟨p,10,none⟩ = false :=
 ⟨fS h 0,fS h 1,fS h 2,fS h 3,fS h 4,fS h 5,fS h 6,fS h 7,fS h 8,fS h 9,fS h 10⟩
structure SbIn (w w1 : World) (s : SS) (v : Value) : Prop where
 box : w1.heap[w.heap.size]? = some (objS s v)
 res : w1.heap[w.heap.size + 1]? = some (objS zeroS (.slice none 0 0))
 below : Below w.heap.size w w1
theorem SbIn.start (w : World) (s : SS) (v : Value) : SbIn w ((w.alloc (objS s v)).alloc (objS zeroS (.slice none 0 0))) s v :=
 ⟨blk_alloc (blk_new w _) _,by have h:=blk_new (w.alloc (objS s v)) (objS zeroS (.slice none 0 0));rw [World.size_alloc] at h;exact h,((Below.refl _ _).alloc (Nat.le_refl _) _).alloc (by simp) _⟩
theorem SbIn.step {w w1 w2 : World} {s : SS} {v : Value} (h : SbIn w w1 s v) (hb : Below w1.heap.size w1 w2) : SbIn w w2 s v:=by
 have h1:=(Array.getElem?_eq_some_iff.1 h.res).1
 exact ⟨blk_below h.box hb,blk_below h.res hb,h.below.trans (hb.mono (by omega))⟩
theorem SbIn.drewN {w w1 : World} {s : SS} {v : Value} (h : SbIn w w1 s v) (n : Nat) : SbIn w (w1.drewN n) s v:=⟨blk_drewN h.box n,blk_drewN h.res n,pw_below_drewN h.below n⟩
theorem SbIn.lt {w w1 : World} {s : SS} {v : Value} (h : SbIn w w1 s v) : w.heap.size + 1 < w1.heap.size:=(Array.getElem?_eq_some_iff.1 h.res).1
theorem SbIn.put {w w1 : World} {s s' : SS} {v v' : Value} (h : SbIn w w1 s v) {j : Nat} {u : Value} (ho : (w1.setCell ⟨w.heap.size,j,none⟩ u).heap[w.heap.size]? = some (objS s' v')) : SbIn w (w1.setCell ⟨w.heap.size,j,none⟩ u) s' v' :=
 ⟨ho,(Below.heap_setCell _ _ _ _ (show w.heap.size + 1 ≠ w.heap.size by omega)).trans h.res,h.below.setCell (Nat.le_refl _) _⟩
structure SbO (w w1 : World) (s : SS) (v : Value) : Prop where
 box : w1.heap[w.heap.size]? = some (objS s v)
 res : w1.heap[w.heap.size + 1]? = some (objS zeroS (.slice none 0 0))
 below : Below w.heap.size w w1
 row : Kd.R (Kd.int .u8) 5 w1 w.heap.size (fun k => w.heap.size + 1 < k) v s.data
theorem SbO.lt {w w1 : World} {s : SS} {v : Value} (h : SbO w w1 s v) : w.heap.size + 1 < w1.heap.size:=(Array.getElem?_eq_some_iff.1 h.res).1
theorem SbO.step {w w1 w2 : World} {s : SS} {v : Value} (h : SbO w w1 s v) (hb : Below w1.heap.size w1 w2) : SbO w w2 s v :=
 ⟨blk_below h.box hb,blk_below h.res hb,h.below.trans (hb.mono (by have:=h.lt;omega)),Kd.R_below h.row hb⟩
theorem SbO.put {w w1 : World} {s s' : SS} {v : Value} (h : SbO w w1 s v) {j : Nat} {u : Value} (ho : (w1.setCell ⟨w.heap.size,j,none⟩ u).heap[w.heap.size]? = some (objS s' v)) (hd : s'.data = s.data) : SbO w (w1.setCell ⟨w.heap.size,j,none⟩ u) s' v :=
 ⟨ho,(Below.heap_setCell _ _ _ _ (show w.heap.size + 1 ≠ w.heap.size by omega)).trans h.res,h.below.setCell (Nat.le_refl _) _,by rw [hd];exact Kd.R_step h.row (fun k hk _ => Below.heap_setCell _ _ _ k (by simp only [];omega))⟩
theorem SbO.toIn {w w1 : World} {s : SS} {v : Value} (h : SbO w w1 s v) : SIn w w1 w.heap.size (fun k => w.heap.size + 1 < k) s v:=⟨h.box,h.row,h.below,fun k hk => by have:=h.lt;(try simp only []);omega⟩
theorem SbO.ofEnd {w w1 w2 : World} {s s' : SS} {v : Value} {e : Ending} (h : SbO w w1 s v) (he : EndS w w1 w.heap.size (fun k => w.heap.size + 1 < k) s' e w2) : ∃ v',SbO w w2 s' v':=by
 obtain ⟨v',ha⟩:=he.at_
 exact ⟨v',ha.obj,(he.tch.block h.lt (by rintro (e | e) <;> omega)).trans h.res,he.tch.below h.below h.below.size (fun k hk => by rcases hk with hk | hk <;> omega),ha.row⟩
theorem SbO.ofCopy {w w1 w2 w3 : World} {s : SS} {v0 v : Value} (h : SbIn w w1 s v0) (hb : Below w1.heap.size w1 w2) (hr : Kd.R (Kd.int .u8) 5 w2 w1.heap.size (fun _ => True) v s.data) (ho : w3.heap[w.heap.size]? = some (objS s v)) (ht : Tch w2 w3 (fun k => k = w.heap.size)) : SbO w w3 s v:=by
 have hlt:=h.lt
 have h2:=h.step hb
 refine ⟨ho,(ht.block h2.lt (by omega)).trans h2.res,ht.below h2.below h2.below.size (fun k hk => by omega), ?_⟩
 refine ht.R (Kd.R_mono (Kd.R_lower (Kd.R_bound hr) (by omega)) (fun k hk => ?_)) (fun k hk e => by omega)
 have:=hk.2.1
 (try simp only []);omega
theorem SbO.open_ {w w1 : World} {s : SS} {v : Value} (h : SbO w w1 s v) : ∃ A c,v = .slice A s.data.length c ∧ Kd.C (Kd.int .u8) w1 A s.data.length s.data ∧ s.data.length ≤ c:=by
 obtain ⟨A,c,rfl⟩:=Kd.R_slice h.row
 obtain ⟨h1,h2,h3⟩:=Kd.R_reads' h.row
 exact ⟨A,c,rfl,h3,h2⟩
theorem copy_eq {s : SS} (h : s.data.length ≤ 8) : impl_copyFrame.f s.ext s.id s.rtr s.dlc s.data = some (s.ext,s.id,s.rtr,s.dlc,s.data):=by
 unfold impl_copyFrame.f
 rw [Option.bind_some,if_pos (by simp;omega)]
 rfl
theorem scan_stuff (w : World) (s : SS) (A : Option Addr) (c : Nat) (b : Int) (hr : Kd.C (Kd.int .u8) w A s.data.length s.data) (hc : s.data.length ≤ c) (hG : LaidRows w) (hs : Sound s) (hb : b = 0 ∨ b = 1) (h5 : s.run = 5) (hl : b = s.level) :
  Calls Tryd.prog 8 #[.agg #[.int .i64 s.field, .int .i64 s.left, .int .i64 s.run, .int .i64 s.level, .int .i64 s.crc, .int .i64 s.acc, .bool s.ext, .int .u32 s.id, .bool s.rtr, .int .i64 s.dlc,(.slice A s.data.length c)], .int .i64 b] w fun e w' => e = .returned (.tuple #[.agg #[.int .i64 0, .int .i64 0, .int .i64 0, .int .i64 0, .int .i64 0, .int .i64 0, .bool false, .int .u32 0, .bool false, .int .i64 0, .slice none 0 0], .int .i64 3]) ∧ Below w.heap.size w w':=by
 have HR:=Lib.hid hr
 have HC:=Lib.hid hc
 have HG:=Lib.hid hG
 clear hr hc hG
 have HS:=Lib.hid hs
 have HB01:=Lib.hid hb
 have HCP : Hid (impl_copyFrame.f s.ext s.id s.rtr s.dlc s.data = some (s.ext,s.id,s.rtr,s.dlc,s.data)):=Lib.hid (copy_eq (by have:=hs.dl;omega))
 have HSB : Hid (Sound s):=Lib.hid hs
 have b5 : (s.run == 5) = true:=beq_iff_eq.mpr h5
 have bl : (b == s.level) = true:=beq_iff_eq.mpr hl
 clear hs h5 hl
 rcases hb with rfl | rfl
 all_goals
  go_enter Tryd.func8,Tryd.ntmps8
  go_wp2_with (fail)
  (refine (sound_yes s HSB.out A c _ (Kd.C_alloc (Kd.C_alloc HR.out _) _) HC.out (HG.out.alloc _ |>.alloc _)).mono ?_;rintro e w1 ⟨rfl,hb1⟩;have HW1:=Lib.hid ((SbIn.start w s (.slice A s.data.length c)).step hb1);clear hb1)
  have hx6:=cS6 HW1.out.box
  have hx7:=cS7 HW1.out.box
  have hx8:=cS8 HW1.out.box
  have hx9:=cS9 HW1.out.box
  have hx10:=cS10 HW1.out.box
  go_wp2_with (fail)
  clear hx6 hx7 hx8 hx9 hx10
  (refine (impl_copyFrame.calls s.ext s.id s.rtr s.dlc A c s.data s.ext s.id s.rtr s.dlc s.data _ (Kd.C_below HR.out HW1.out.below) HC.out HCP.out).mono ?_;rintro e w2 ⟨v2,rfl,hr2,hb2⟩;obtain ⟨A2,c2,rfl⟩:=Kd.R_slice hr2;have HR2:=Lib.hid hr2;have HB2:=Lib.hid hb2;have HW2:=Lib.hid (HW1.out.step hb2);clear hr2 hb2)
  go_wp2_with (first | ((with_reducible refine gate_store (t:=29) (p:=22) rfl ?_);refine store_box rfl rfl rfl (g:=w.heap.size) (j:=6) (cs := #[.int .i64 s.field, .int .i64 s.left, .int .i64 s.run, .int .i64 s.level, .int .i64 s.crc, .int .i64 s.acc, .bool s.ext, .int .u32 s.id, .bool s.rtr, .int .i64 s.dlc,(.slice A s.data.length c)]) (cs' := #[.int .i64 s.field, .int .i64 s.left, .int .i64 s.run, .int .i64 s.level, .int .i64 s.crc, .int .i64 s.acc, .bool s.ext, .int .u32 s.id, .bool s.rtr, .int .i64 s.dlc,(.slice A2 s.data.length c2)]) (T:=31) (u := .agg #[.bool s.ext, .int .u32 s.id, .bool s.rtr, .int .i64 s.dlc,(.slice A2 s.data.length c2)]) (seg := [.bool s.ext, .int .u32 s.id, .bool s.rtr, .int .i64 s.dlc,(.slice A2 s.data.length c2)]) rfl rfl HW2.out.box rfl (by kernel_rfl) rfl rfl rfl ?_;intro w3 hx hT;have HW3:=Lib.hid (SbO.ofCopy HW1.out HB2.out HR2.out hx hT);clear hx hT;obtain ⟨hc0,hc1,hc2,hc3,hc4,hc5,hc6,hc7,hc8,hc9,hc10⟩:=cSall HW3.out.box;obtain ⟨hf0,hf1,hf2,hf3,hf4,hf5,hf6,hf7,hf8,hf9,hf10⟩:=fSall HW3.out.box) | ((with_reducible refine gate_store (t:=31) (p:=4) rfl ?_);refine store_box rfl rfl rfl (g:=w.heap.size + 1) (j:=0) (cs := #[.int .i64 0, .int .i64 0, .int .i64 0, .int .i64 0, .int .i64 0, .int .i64 0, .bool false, .int .u32 0, .bool false, .int .i64 0, .slice none 0 0]) (cs' := #[.int .i64 0, .int .i64 0, .int .i64 0, .int .i64 0, .int .i64 0, .int .i64 0, .bool false, .int .u32 0, .bool false, .int .i64 0, .slice none 0 0]) (T:=31) (u := .agg #[.int .i64 0, .int .i64 0, .int .i64 0, .int .i64 0, .int .i64 0, .int .i64 0, .bool false, .int .u32 0, .bool false, .int .i64 0, .slice none 0 0]) (seg := [.int .i64 0, .int .i64 0, .int .i64 0, .int .i64 0, .int .i64 0, .int .i64 0, .bool false, .int .u32 0, .bool false, .int .i64 0, .slice none 0 0]) rfl rfl HW3.out.res rfl (by kernel_rfl) rfl rfl rfl ?_;intro wz hx hT;have HX:=Lib.hid hx;have HTZ:=Lib.hid hT;have HBz:=Lib.hid (hT.below HW3.out.below HW3.out.below.size (fun k hk => by omega));clear hx hT))
  refine bodyPost_ret (results_ct rfl _ _ (w.heap.size + 1) 31 #[.int .i64 0, .int .i64 0, .int .i64 0, .int .i64 0, .int .i64 0, .int .i64 0, .bool false, .int .u32 0, .bool false, .int .i64 0, .slice none 0 0] (0,0) _ rfl HX.out Tryd.underlying31 rfl (by kernel_rfl)) rfl ?_
  exact ⟨rfl,HBz.out⟩
theorem SbO.nil {w w1 : World} {s : SS} {v : Value} (h : SbO w w1 s v) : SbO w ((w1.alloc (.cells #[] 5)).setCell ⟨w.heap.size,10,none⟩ (.slice (some ⟨w1.heap.size,0,none⟩) 0 0)) { s with data := [] } (.slice (some ⟨w1.heap.size,0,none⟩) 0 0):=by
 have hlt:=h.lt
 have hb:=setS10 (blk_alloc h.box (.cells #[] 5)) (.slice (some ⟨w1.heap.size,0,none⟩) 0 0)
 refine ⟨hb,(Below.heap_setCell _ _ _ _ (show w.heap.size + 1 ≠ w.heap.size by omega)).trans (blk_alloc h.res _),(h.below.alloc (by omega) _).setCell (Nat.le_refl _) _, ?_⟩
 exact Kd.R_step (R_empty (Kd.int .u8) w1 5 w.heap.size (by omega) _ (by (try simp only []);omega)) (fun k hk _ => Below.heap_setCell _ _ _ k (by simp only [];omega))
theorem takeS_keep (s : SS) (b : Int) : (takeS s b).field = s.field ∧ (takeS s b).left = s.left:=by
 unfold takeS
 constructor <;> (repeat' split) <;> rfl
theorem afterF_range {s : SS} (f0 : 1 ≤ s.field) (f1 : s.field ≤ 13) : 1 ≤ afterF s ∧ afterF s ≤ 14:=by
 unfold afterF
 by_cases c4 : s.field = 4 ∧ s.ext = false
 ·rw [if_pos c4];omega
 rw [if_neg c4]
 by_cases c8 : s.field = 8 ∧ (s.rtr = true ∨ s.dlc = 0)
 ·rw [if_pos c8];omega
 rw [if_neg c8]
 obtain ⟨n,hn⟩ : ∃ n : Nat,s.field = (n : Int):=⟨s.field.toNat,by omega⟩
 rw [hn,Int.toNat_natCast]
 have : ∀ m : Fin 14,1 ≤ m.val → 1 ≤ rowsL.getD (m.val * 2 + 1) 0 ∧ rowsL.getD (m.val * 2 + 1) 0 ≤ 14:=by decide
 exact this ⟨n,by omega⟩ (by show 1 ≤ n;omega)
theorem takeS_dlc {s : SS} (d0 : 0 ≤ s.dlc) (d1 : s.dlc ≤ 15) (b : Int) : 0 ≤ (takeS s b).dlc ∧ (takeS s b).dlc ≤ 15:=by
 unfold takeS
 (repeat' split) <;> (try simp only []) <;> omega
theorem Sound.ok {s : SS} (h : Sound s) (i0 : 0 ≤ s.id) (hb : ∀ x ∈ s.data,0 ≤ x ∧ x < 256) : SOk s:=by
 have:=(sizeF_le h.f0 h.f1 h.d0).2
 have l1:=h.l1
 refine ⟨h.f0,h.f1,h.l0,by omega,h.d0,h.d1,i0,h.i1,h.a0,by have:=h.a1;omega,fun h9 hm => ?_,hb,by have:=h.dl;omega⟩
 obtain ⟨hr,hd,hl⟩:=h.nine h9
 intro he
 rw [he] at hl
 have hsz : sizeF s = 8 * (if s.dlc < 8 then s.dlc else 8):=by unfold sizeF;rw [if_neg (by omega),if_pos h9]
 rw [hsz] at hl l1
 have l0:=h.l0
 simp only [List.length_nil] at hl
 split at hl <;> split at l1 <;> omega
theorem scan_skip_0 (w : World) (s : SS) (A : Option Addr) (c : Nat) (hr : Kd.C (Kd.int .u8) w A s.data.length s.data) (hc : s.data.length ≤ c) (hG : LaidRows w) (hs : Sound s) (h5 : s.run = 5) (hl : 0 ≠ s.level) :
  Calls Tryd.prog 8 #[.agg #[.int .i64 s.field, .int .i64 s.left, .int .i64 s.run, .int .i64 s.level, .int .i64 s.crc, .int .i64 s.acc, .bool s.ext, .int .u32 s.id, .bool s.rtr, .int .i64 s.dlc,(.slice A s.data.length c)], .int .i64 0] w fun e w' => ∃ v : Value,e = .returned (.tuple #[.agg #[.int .i64 ({ s with run:=1,level:=0 } : SS).field, .int .i64 ({ s with run:=1,level:=0 } : SS).left, .int .i64 ({ s with run:=1,level:=0 } : SS).run, .int .i64 ({ s with run:=1,level:=0 } : SS).level, .int .i64 ({ s with run:=1,level:=0 } : SS).crc, .int .i64 ({ s with run:=1,level:=0 } : SS).acc, .bool ({ s with run:=1,level:=0 } : SS).ext, .int .u32 ({ s with run:=1,level:=0 } : SS).id, .bool ({ s with run:=1,level:=0 } : SS).rtr, .int .i64 ({ s with run:=1,level:=0 } : SS).dlc,v], .int .i64 0]) ∧ Kd.R (Kd.int .u8) 5 w' w.heap.size (fun _ => True) v ({ s with run:=1,level:=0 } : SS).data ∧ Below w.heap.size w w':=by
 have HR:=Lib.hid hr
 have HC:=Lib.hid hc
 have HG:=Lib.hid hG
 clear hr hc hG
 have HS:=Lib.hid hs
 have HCP : Hid (impl_copyFrame.f s.ext s.id s.rtr s.dlc s.data = some (s.ext,s.id,s.rtr,s.dlc,s.data)):=Lib.hid (copy_eq (by have:=hs.dl;omega))
 have HSB : Hid (Sound s):=Lib.hid hs
 have b5 : (s.run == 5) = true:=beq_iff_eq.mpr h5
 have bl : (0 == s.level) = false:=beq_eq_false_iff_ne.mpr hl
 clear hs h5 hl
 go_enter Tryd.func8,Tryd.ntmps8
 go_wp2_with (fail)
 (refine (sound_yes s HSB.out A c _ (Kd.C_alloc (Kd.C_alloc HR.out _) _) HC.out (HG.out.alloc _ |>.alloc _)).mono ?_;rintro e w1 ⟨rfl,hb1⟩;have HW1:=Lib.hid ((SbIn.start w s (.slice A s.data.length c)).step hb1);clear hb1)
 have hx6:=cS6 HW1.out.box
 have hx7:=cS7 HW1.out.box
 have hx8:=cS8 HW1.out.box
 have hx9:=cS9 HW1.out.box
 have hx10:=cS10 HW1.out.box
 go_wp2_with (fail)
 clear hx6 hx7 hx8 hx9 hx10
 (refine (impl_copyFrame.calls s.ext s.id s.rtr s.dlc A c s.data s.ext s.id s.rtr s.dlc s.data _ (Kd.C_below HR.out HW1.out.below) HC.out HCP.out).mono ?_;rintro e w2 ⟨v2,rfl,hr2,hb2⟩;obtain ⟨A2,c2,rfl⟩:=Kd.R_slice hr2;have HR2:=Lib.hid hr2;have HB2:=Lib.hid hb2;have HW2:=Lib.hid (HW1.out.step hb2);clear hr2 hb2)
 go_wp2_with (first | ((with_reducible refine gate_store (t:=29) (p:=22) rfl ?_);refine store_box rfl rfl rfl (g:=w.heap.size) (j:=6) (cs := #[.int .i64 s.field, .int .i64 s.left, .int .i64 s.run, .int .i64 s.level, .int .i64 s.crc, .int .i64 s.acc, .bool s.ext, .int .u32 s.id, .bool s.rtr, .int .i64 s.dlc,(.slice A s.data.length c)]) (cs' := #[.int .i64 s.field, .int .i64 s.left, .int .i64 s.run, .int .i64 s.level, .int .i64 s.crc, .int .i64 s.acc, .bool s.ext, .int .u32 s.id, .bool s.rtr, .int .i64 s.dlc,(.slice A2 s.data.length c2)]) (T:=31) (u := .agg #[.bool s.ext, .int .u32 s.id, .bool s.rtr, .int .i64 s.dlc,(.slice A2 s.data.length c2)]) (seg := [.bool s.ext, .int .u32 s.id, .bool s.rtr, .int .i64 s.dlc,(.slice A2 s.data.length c2)]) rfl rfl HW2.out.box rfl (by kernel_rfl) rfl rfl rfl ?_;intro w3 hx hT;have HW3:=Lib.hid (SbO.ofCopy HW1.out HB2.out HR2.out hx hT);clear hx hT;obtain ⟨hc0,hc1,hc2,hc3,hc4,hc5,hc6,hc7,hc8,hc9,hc10⟩:=cSall HW3.out.box;obtain ⟨hf0,hf1,hf2,hf3,hf4,hf5,hf6,hf7,hf8,hf9,hf10⟩:=fSall HW3.out.box;have HW5:=Lib.hid ((HW3.out.put (setS2 HW3.out.box 1) rfl).put (setS3 (setS2 HW3.out.box 1) 0) rfl)) | ((with_reducible refine gate_store (t:=31) (p:=4) rfl ?_);refine store_box rfl rfl rfl (g:=w.heap.size + 1) (j:=0) (cs := #[.int .i64 0, .int .i64 0, .int .i64 0, .int .i64 0, .int .i64 0, .int .i64 0, .bool false, .int .u32 0, .bool false, .int .i64 0, .slice none 0 0]) (cs' := #[.int .i64 s.field, .int .i64 s.left, .int .i64 1, .int .i64 0, .int .i64 s.crc, .int .i64 s.acc, .bool s.ext, .int .u32 s.id, .bool s.rtr, .int .i64 s.dlc,(.slice A2 s.data.length c2)]) (T:=31) (u := .agg #[.int .i64 s.field, .int .i64 s.left, .int .i64 1, .int .i64 0, .int .i64 s.crc, .int .i64 s.acc, .bool s.ext, .int .u32 s.id, .bool s.rtr, .int .i64 s.dlc,(.slice A2 s.data.length c2)]) (seg := [.int .i64 s.field, .int .i64 s.left, .int .i64 1, .int .i64 0, .int .i64 s.crc, .int .i64 s.acc, .bool s.ext, .int .u32 s.id, .bool s.rtr, .int .i64 s.dlc,(.slice A2 s.data.length c2)]) rfl rfl HW5.out.res rfl (by kernel_rfl) rfl rfl rfl ?_;intro wz hx hT;have HX:=Lib.hid hx;have HTZ:=Lib.hid hT;have HBz:=Lib.hid (hT.below HW5.out.below HW5.out.below.size (fun k hk => by omega));clear hx hT))
 refine bodyPost_ret (results_ct rfl _ _ (w.heap.size + 1) 31 #[.int .i64 s.field, .int .i64 s.left, .int .i64 1, .int .i64 0, .int .i64 s.crc, .int .i64 s.acc, .bool s.ext, .int .u32 s.id, .bool s.rtr, .int .i64 s.dlc,(.slice A2 s.data.length c2)] (0,0) _ rfl HX.out Tryd.underlying31 rfl (by kernel_rfl)) rfl ?_
 exact ⟨_,rfl,HTZ.out.R (Kd.R_mono HW5.out.row (fun _ h => h)) (fun k hk e => by omega) |> fun h => Kd.R_mono h (fun _ _ => trivial),HBz.out⟩
theorem scan_skip_1 (w : World) (s : SS) (A : Option Addr) (c : Nat) (hr : Kd.C (Kd.int .u8) w A s.data.length s.data) (hc : s.data.length ≤ c) (hG : LaidRows w) (hs : Sound s) (h5 : s.run = 5) (hl : 1 ≠ s.level) :
  Calls Tryd.prog 8 #[.agg #[.int .i64 s.field, .int .i64 s.left, .int .i64 s.run, .int .i64 s.level, .int .i64 s.crc, .int .i64 s.acc, .bool s.ext, .int .u32 s.id, .bool s.rtr, .int .i64 s.dlc,(.slice A s.data.length c)], .int .i64 1] w fun e w' => ∃ v : Value,e = .returned (.tuple #[.agg #[.int .i64 ({ s with run:=1,level:=1 } : SS).field, .int .i64 ({ s with run:=1,level:=1 } : SS).left, .int .i64 ({ s with run:=1,level:=1 } : SS).run, .int .i64 ({ s with run:=1,level:=1 } : SS).level, .int .i64 ({ s with run:=1,level:=1 } : SS).crc, .int .i64 ({ s with run:=1,level:=1 } : SS).acc, .bool ({ s with run:=1,level:=1 } : SS).ext, .int .u32 ({ s with run:=1,level:=1 } : SS).id, .bool ({ s with run:=1,level:=1 } : SS).rtr, .int .i64 ({ s with run:=1,level:=1 } : SS).dlc,v], .int .i64 0]) ∧ Kd.R (Kd.int .u8) 5 w' w.heap.size (fun _ => True) v ({ s with run:=1,level:=1 } : SS).data ∧ Below w.heap.size w w':=by
 have HR:=Lib.hid hr
 have HC:=Lib.hid hc
 have HG:=Lib.hid hG
 clear hr hc hG
 have HS:=Lib.hid hs
 have HCP : Hid (impl_copyFrame.f s.ext s.id s.rtr s.dlc s.data = some (s.ext,s.id,s.rtr,s.dlc,s.data)):=Lib.hid (copy_eq (by have:=hs.dl;omega))
 have HSB : Hid (Sound s):=Lib.hid hs
 have b5 : (s.run == 5) = true:=beq_iff_eq.mpr h5
 have bl : (1 == s.level) = false:=beq_eq_false_iff_ne.mpr hl
 clear hs h5 hl
 go_enter Tryd.func8,Tryd.ntmps8
 go_wp2_with (fail)
 (refine (sound_yes s HSB.out A c _ (Kd.C_alloc (Kd.C_alloc HR.out _) _) HC.out (HG.out.alloc _ |>.alloc _)).mono ?_;rintro e w1 ⟨rfl,hb1⟩;have HW1:=Lib.hid ((SbIn.start w s (.slice A s.data.length c)).step hb1);clear hb1)
 have hx6:=cS6 HW1.out.box
 have hx7:=cS7 HW1.out.box
 have hx8:=cS8 HW1.out.box
 have hx9:=cS9 HW1.out.box
 have hx10:=cS10 HW1.out.box
 go_wp2_with (fail)
 clear hx6 hx7 hx8 hx9 hx10
 (refine (impl_copyFrame.calls s.ext s.id s.rtr s.dlc A c s.data s.ext s.id s.rtr s.dlc s.data _ (Kd.C_below HR.out HW1.out.below) HC.out HCP.out).mono ?_;rintro e w2 ⟨v2,rfl,hr2,hb2⟩;obtain ⟨A2,c2,rfl⟩:=Kd.R_slice hr2;have HR2:=Lib.hid hr2;have HB2:=Lib.hid hb2;have HW2:=Lib.hid (HW1.out.step hb2);clear hr2 hb2)
 go_wp2_with (first | ((with_reducible refine gate_store (t:=29) (p:=22) rfl ?_);refine store_box rfl rfl rfl (g:=w.heap.size) (j:=6) (cs := #[.int .i64 s.field, .int .i64 s.left, .int .i64 s.run, .int .i64 s.level, .int .i64 s.crc, .int .i64 s.acc, .bool s.ext, .int .u32 s.id, .bool s.rtr, .int .i64 s.dlc,(.slice A s.data.length c)]) (cs' := #[.int .i64 s.field, .int .i64 s.left, .int .i64 s.run, .int .i64 s.level, .int .i64 s.crc, .int .i64 s.acc, .bool s.ext, .int .u32 s.id, .bool s.rtr, .int .i64 s.dlc,(.slice A2 s.data.length c2)]) (T:=31) (u := .agg #[.bool s.ext, .int .u32 s.id, .bool s.rtr, .int .i64 s.dlc,(.slice A2 s.data.length c2)]) (seg := [.bool s.ext, .int .u32 s.id, .bool s.rtr, .int .i64 s.dlc,(.slice A2 s.data.length c2)]) rfl rfl HW2.out.box rfl (by kernel_rfl) rfl rfl rfl ?_;intro w3 hx hT;have HW3:=Lib.hid (SbO.ofCopy HW1.out HB2.out HR2.out hx hT);clear hx hT;obtain ⟨hc0,hc1,hc2,hc3,hc4,hc5,hc6,hc7,hc8,hc9,hc10⟩:=cSall HW3.out.box;obtain ⟨hf0,hf1,hf2,hf3,hf4,hf5,hf6,hf7,hf8,hf9,hf10⟩:=fSall HW3.out.box;have HW5:=Lib.hid ((HW3.out.put (setS2 HW3.out.box 1) rfl).put (setS3 (setS2 HW3.out.box 1) 1) rfl)) | ((with_reducible refine gate_store (t:=31) (p:=4) rfl ?_);refine store_box rfl rfl rfl (g:=w.heap.size + 1) (j:=0) (cs := #[.int .i64 0, .int .i64 0, .int .i64 0, .int .i64 0, .int .i64 0, .int .i64 0, .bool false, .int .u32 0, .bool false, .int .i64 0, .slice none 0 0]) (cs' := #[.int .i64 s.field, .int .i64 s.left, .int .i64 1, .int .i64 1, .int .i64 s.crc, .int .i64 s.acc, .bool s.ext, .int .u32 s.id, .bool s.rtr, .int .i64 s.dlc,(.slice A2 s.data.length c2)]) (T:=31) (u := .agg #[.int .i64 s.field, .int .i64 s.left, .int .i64 1, .int .i64 1, .int .i64 s.crc, .int .i64 s.acc, .bool s.ext, .int .u32 s.id, .bool s.rtr, .int .i64 s.dlc,(.slice A2 s.data.length c2)]) (seg := [.int .i64 s.field, .int .i64 s.left, .int .i64 1, .int .i64 1, .int .i64 s.crc, .int .i64 s.acc, .bool s.ext, .int .u32 s.id, .bool s.rtr, .int .i64 s.dlc,(.slice A2 s.data.length c2)]) rfl rfl HW5.out.res rfl (by kernel_rfl) rfl rfl rfl ?_;intro wz hx hT;have HX:=Lib.hid hx;have HTZ:=Lib.hid hT;have HBz:=Lib.hid (hT.below HW5.out.below HW5.out.below.size (fun k hk => by omega));clear hx hT))
 refine bodyPost_ret (results_ct rfl _ _ (w.heap.size + 1) 31 #[.int .i64 s.field, .int .i64 s.left, .int .i64 1, .int .i64 1, .int .i64 s.crc, .int .i64 s.acc, .bool s.ext, .int .u32 s.id, .bool s.rtr, .int .i64 s.dlc,(.slice A2 s.data.length c2)] (0,0) _ rfl HX.out Tryd.underlying31 rfl (by kernel_rfl)) rfl ?_
 exact ⟨_,rfl,HTZ.out.R (Kd.R_mono HW5.out.row (fun _ h => h)) (fun k hk e => by omega) |> fun h => Kd.R_mono h (fun _ _ => trivial),HBz.out⟩
end Go.Proofs.YtdoclpgciadjaaaDoor.P
namespace Go.Proofs.YtdoclpgciadjaaaDoor.P
open Go Go.RowKit Go.Proofs.YtdoclpgciadjaaaDoorW.PrintWords
set_option linter.unusedVariables false
def crcN (r b : Nat) : Nat:=if (r / 16384) ^^^ b = 1 then (2 * r % 32768) ^^^ 17817 else 2 * r % 32768
theorem bits_xor_i64 (a b : Nat) (ha : a < 2 ^ 62) (hb : b < 2 ^ 62) : bits .xor .i64 (a : Int) (b : Int) = ((a ^^^ b : Nat) : Int):=by
 have hp : (2 : Nat) ^ 62 ≤ 2 ^ IntKind.i64.bits:=Nat.pow_le_pow_right (by decide) (by decide)
 have ha' : a % 2 ^ IntKind.i64.bits = a:=Nat.mod_eq_of_lt (Nat.lt_of_lt_of_le ha hp)
 have hb' : b % 2 ^ IntKind.i64.bits = b:=Nat.mod_eq_of_lt (Nat.lt_of_lt_of_le hb hp)
 simp only [bits,BitVec.ofInt_natCast,BitVec.toNat_xor,BitVec.toNat_ofNat,ha',hb']
 have h:=Nat.xor_lt_two_pow ha hb
 rw [IntKind.wrap_i64]
 omega
theorem bits_and_i64 (a b : Nat) (ha : a < 2 ^ 62) (hb : b < 2 ^ 62) : bits .and .i64 (a : Int) (b : Int) = ((a &&& b : Nat) : Int) :=
 (bits_nat .i64 62 (by decide) (fun n h0 h1 => by rw [IntKind.wrap_i64];omega) a b ha hb).1
theorem crcI_nat (r b : Nat) (hr : r < 32768) (hb : b ≤ 1) : crcI r b = crcN r b:=by
 have h1 : ((r : Int) / 16384) = ((r / 16384 : Nat) : Int):=by omega
 have h2 : bits .and .i64 ((r : Int) / 16384) 1 = ((r / 16384 : Nat) : Int):=by
  rw [h1]
  have:=bits_and_i64 (r / 16384) 1 (by omega) (by decide)
  rw [show ((1 : Nat) : Int) = 1 from rfl] at this
  rw [this,Nat.and_one_is_mod]
  omega
 have h3 : bits .and .i64 (wrap64 ((r : Int) * 2)) 32767 = ((2 * r % 32768 : Nat) : Int):=by
  have hw : wrap64 ((r : Int) * 2) = ((2 * r : Nat) : Int):=by unfold wrap64;omega
  rw [hw]
  have:=bits_and_i64 (2 * r) 32767 (by omega) (by decide)
  rw [show ((32767 : Nat) : Int) = 32767 from rfl] at this
  rw [this,show (32767 : Nat) = 2 ^ 15 - 1 from rfl,Nat.and_two_pow_sub_one_eq_mod]
 have h4 : bits .xor .i64 ((r / 16384 : Nat) : Int) (b : Int) = ((r / 16384 ^^^ b : Nat) : Int):=bits_xor_i64 _ _ (by omega) (by omega)
 have h5 : bits .xor .i64 ((2 * r % 32768 : Nat) : Int) 17817 = ((2 * r % 32768 ^^^ 17817 : Nat) : Int):=bits_xor_i64 _ 17817 (by omega) (by decide)
 unfold crcI crcN
 rw [h2,h3,h4,h5]
 by_cases c : r / 16384 ^^^ b = 1
 ·rw [if_pos c,if_pos (by rw [c];rfl)]
 ·rw [if_neg c,if_neg (by omega)]
theorem crcN_lt (r b : Nat) : crcN r b < 32768:=by
 unfold crcN
 split
 ·exact Nat.xor_lt_two_pow (n:=15) (by omega) (by decide)
 ·omega
def bitN (c : Int) : Nat:=if c = 49 then 1 else 0
def bitB (c : Int) : Bool:=decide (c = 49)
def crcL (l : List Int) : Nat:=l.foldl (fun r c => crcN r (bitN c)) 0
theorem crcL_snoc (l : List Int) (c : Int) : crcL (l ++ [c]) = crcN (crcL l) (bitN c):=by
 unfold crcL;rw [List.foldl_append];rfl
theorem snoc_ind {α : Type} {p : List α → Prop} (h0 : p []) (h1 : ∀ l c,p l → p (l ++ [c])) (l : List α) : p l:=by
 have key : ∀ m : List α,p m.reverse:=by
  intro m
  induction m with
  | nil => exact h0
  | cons a m ih => rw [List.reverse_cons];exact h1 _ _ ih
 have:=key l.reverse
 rwa [List.reverse_reverse] at this
theorem crcL_lt (l : List Int) : crcL l < 32768:=by
 induction l using snoc_ind with
 | h0 => decide
 | h1 l c _ => rw [crcL_snoc];exact crcN_lt _ _
theorem crcI_list (l : List Int) (hl : ∀ c ∈ l,c = 48 ∨ c = 49) : l.foldl (fun r c => crcI r (c - 48)) 0 = (crcL l : Int):=by
 induction l using snoc_ind with
 | h0 => rfl
 | h1 l c ih =>
  rw [List.foldl_append,ih (fun x hx => hl x (List.mem_append_left _ hx)),crcL_snoc,List.foldl_cons,List.foldl_nil]
  rcases hl c (by simp) with rfl | rfl
  ·exact crcI_nat _ 0 (crcL_lt l) (by decide)
  ·exact crcI_nat _ 1 (crcL_lt l) (by decide)
theorem crcN_testBit (r b : Nat) (hr : r < 32768) (hb : b ≤ 1) (j : Nat) (hj : j < 15) :
  (crcN r b).testBit j = (((decide (0 < j)) && r.testBit (j - 1)) ^^ ((r.testBit 14 ^^ decide (b = 1)) && Nat.testBit 17817 j)):=by
 have h14 : r.testBit 14 = decide (r / 16384 = 1):=by
  rw [Nat.testBit_eq_decide_div_mod_eq]
  congr 1
  have : r / 2 ^ 14 % 2 = r / 16384:=by omega
  rw [this]
 have hy : (2 * r % 32768).testBit j = (decide (0 < j) && r.testBit (j - 1)):=by
  rw [show (32768 : Nat) = 2 ^ 15 from rfl,Nat.testBit_mod_two_pow,show 2 * r = r <<< 1 by omega,Nat.testBit_shiftLeft]
  simp [hj]
  rfl
 have hx : (r / 16384 ^^^ b = 1) ↔ (r.testBit 14 ^^ decide (b = 1)) = true:=by
  rw [h14]
  have h0 : r / 16384 = 0 ∨ r / 16384 = 1:=by omega
  have h1 : b = 0 ∨ b = 1:=by omega
  rcases h0 with h0 | h0 <;> rcases h1 with h1 | h1 <;> rw [h0,h1] <;> decide
 unfold crcN
 by_cases c : r / 16384 ^^^ b = 1
 ·rw [if_pos c,Nat.testBit_xor,hy,hx.1 c,Bool.true_and]
 ·rw [if_neg c,hy]
  have : (r.testBit 14 ^^ decide (b = 1)) = false:=by
   cases h : (r.testBit 14 ^^ decide (b = 1)) with
   | false => rfl
   | true => exact absurd (hx.2 h) c
  rw [this];simp
end Go.Proofs.YtdoclpgciadjaaaDoor.P
namespace Go.Proofs.YtdoclpgciadjaaaDoor.P
open Go.RowKit Go.Proofs.YtdoclpgciadjaaaDoorW.PrintWords Go.Proofs.YtdoclpgciadjaaaDoorW.PrintLast Go.Proofs.YtdoclpgciadjaaaDoorW.PrintMore
set_option linter.unusedVariables false
set_option linter.unusedSimpArgs false
def spec_l2size.f (a0 : Int) (a1_0 : Bool) (a1_1 : Int) (a1_2 : Bool) (a1_3 : Int) (l1_4 : List Int) : Option (Int):=if a0 = 2 then (some 11) else (if a0 = 5 then (some 18) else (if a0 = 7 then (if a1_0 = true then (some 2) else (some 1)) else (if a0 = 8 then (some 4) else (if a0 = 9 then (if a1_3 > 8 then (some 64) else (some (wrap64 (8 * a1_3)))) else (if a0 = 10 then (some 15) else (if a0 = 14 then (some 7) else (some 1)))))))
mutual
def spec_l2sound.j0 : Nat → Bool → Int → Int → Int → Int → Int → Int → Bool → Int → Bool → Int → List Int → Option (Bool)
 | 0,_,_,_,_,_,_,_,_,_,_,_,_ => none
 | k + 1,x12,x313000,x313001,x313002,x313003,x313004,x313005,x313006,x313007,x313008,x313009,x313010 => if x12 = true then (some false) else (if x313007 ≥ 536870912 then (spec_l2sound.j1 k true x313000 x313001 x313002 x313003 x313004 x313005 x313006 x313007 x313008 x313009 x313010) else (if x313009 < 0 then (spec_l2sound.j1 k true x313000 x313001 x313002 x313003 x313004 x313005 x313006 x313007 x313008 x313009 x313010) else (if x313009 > 15 then (spec_l2sound.j1 k true x313000 x313001 x313002 x313003 x313004 x313005 x313006 x313007 x313008 x313009 x313010) else (spec_l2sound.j1 k (decide ((x313010.length : Int) > 8)) x313000 x313001 x313002 x313003 x313004 x313005 x313006 x313007 x313008 x313009 x313010))))
def spec_l2sound.j1 : Nat → Bool → Int → Int → Int → Int → Int → Int → Bool → Int → Bool → Int → List Int → Option (Bool)
 | 0,_,_,_,_,_,_,_,_,_,_,_,_ => none
 | k + 1,x35,x313000,x313001,x313002,x313003,x313004,x313005,x313006,x313007,x313008,x313009,x313010 => if x35 = true then (some false) else ((spec_l2size.f x313000 x313006 x313007 x313008 x313009 x313010).bind fun t313 => (if x313001 < 1 then (spec_l2sound.j2 k t313 true x313000 x313001 x313002 x313003 x313004 x313005 x313006 x313007 x313008 x313009 x313010) else (spec_l2sound.j2 k t313 (decide (x313001 > t313)) x313000 x313001 x313002 x313003 x313004 x313005 x313006 x313007 x313008 x313009 x313010)))
def spec_l2sound.j2 : Nat → Int → Bool → Int → Int → Int → Int → Int → Int → Bool → Int → Bool → Int → List Int → Option (Bool)
 | 0,_,_,_,_,_,_,_,_,_,_,_,_,_ => none
 | k + 1,x3,x49,x313000,x313001,x313002,x313003,x313004,x313005,x313006,x313007,x313008,x313009,x313010 => if x49 = true then (some false) else (if x313002 < 0 then (spec_l2sound.j3 k x3 true x313000 x313001 x313002 x313003 x313004 x313005 x313006 x313007 x313008 x313009 x313010) else (if x313002 > 5 then (spec_l2sound.j3 k x3 true x313000 x313001 x313002 x313003 x313004 x313005 x313006 x313007 x313008 x313009 x313010) else (if x313003 < 0 then (spec_l2sound.j3 k x3 true x313000 x313001 x313002 x313003 x313004 x313005 x313006 x313007 x313008 x313009 x313010) else (if x313003 > 1 then (spec_l2sound.j3 k x3 true x313000 x313001 x313002 x313003 x313004 x313005 x313006 x313007 x313008 x313009 x313010) else (if x313002 = 0 then (spec_l2sound.j3 k x3 (x313003 == 1) x313000 x313001 x313002 x313003 x313004 x313005 x313006 x313007 x313008 x313009 x313010) else (spec_l2sound.j3 k x3 false x313000 x313001 x313002 x313003 x313004 x313005 x313006 x313007 x313008 x313009 x313010))))))
def spec_l2sound.j3 : Nat → Int → Bool → Int → Int → Int → Int → Int → Int → Bool → Int → Bool → Int → List Int → Option (Bool)
 | 0,_,_,_,_,_,_,_,_,_,_,_,_,_ => none
 | k + 1,x3,x77,x313000,x313001,x313002,x313003,x313004,x313005,x313006,x313007,x313008,x313009,x313010 => if x77 = true then (some false) else (if x313000 = 1 then (spec_l2sound.j4 k x3 true x313000 x313001 x313002 x313003 x313004 x313005 x313006 x313007 x313008 x313009 x313010) else (spec_l2sound.j4 k x3 (decide (x313000 > 11)) x313000 x313001 x313002 x313003 x313004 x313005 x313006 x313007 x313008 x313009 x313010))
def spec_l2sound.j4 : Nat → Int → Bool → Int → Int → Int → Int → Int → Int → Bool → Int → Bool → Int → List Int → Option (Bool)
 | 0,_,_,_,_,_,_,_,_,_,_,_,_,_ => none
 | k + 1,x3,x4,x313000,x313001,x313002,x313003,x313004,x313005,x313006,x313007,x313008,x313009,x313010 => if (x4 != (x313002 == 0)) = true then (some false) else (if x313004 < 0 then (spec_l2sound.j5 k x3 true x313000 x313001 x313002 x313003 x313004 x313005 x313006 x313007 x313008 x313009 x313010) else (if x313004 > 32767 then (spec_l2sound.j5 k x3 true x313000 x313001 x313002 x313003 x313004 x313005 x313006 x313007 x313008 x313009 x313010) else (if x313005 < 0 then (spec_l2sound.j5 k x3 true x313000 x313001 x313002 x313003 x313004 x313005 x313006 x313007 x313008 x313009 x313010) else (spec_l2sound.j5 k x3 (decide (x313005 > 32767)) x313000 x313001 x313002 x313003 x313004 x313005 x313006 x313007 x313008 x313009 x313010))))
def spec_l2sound.j5 : Nat → Int → Bool → Int → Int → Int → Int → Int → Int → Bool → Int → Bool → Int → List Int → Option (Bool)
 | 0,_,_,_,_,_,_,_,_,_,_,_,_,_ => none
 | k + 1,x3,x108,x313000,x313001,x313002,x313003,x313004,x313005,x313006,x313007,x313008,x313009,x313010 => if x108 = true then (some false) else (if x313000 = 9 then (if x313008 = true then (some false) else (if x313009 = 0 then (some false) else (if (x313010.length : Int) = (wrap64 (Int.tdiv (wrap64 ((wrap64 (x3 - x313001)) + 7)) 8)) then (some true) else (some false)))) else (some true))
end
def spec_l2verdict.j0 : Nat → Int → Bool → Int → Int → Int → Int → Int → Int → Bool → Int → Bool → Int → List Int → Option (Int)
 | 0,_,_,_,_,_,_,_,_,_,_,_,_,_ => none
 | k + 1,x1,x32,x333000,x333001,x333002,x333003,x333004,x333005,x333006,x333007,x333008,x333009,x333010 => if x32 = true then (some 4) else (if x1 = 0 then (some 6) else (if x333001 = 2 then (some 1) else (if x333001 = 1 then (some 2) else (some 0))))
def spec_l2after.j0 : Nat → Int → Bool → Bool → Int → Bool → Int → List Int → Option (Int)
 | 0,_,_,_,_,_,_,_ => none
 | k + 1,x0,x11,x334000,x334001,x334002,x334003,x334004 => if x11 = true then (some 7) else (if x0 = 8 then (if x334002 = true then (some 10) else (if x334003 = 0 then (some 10) else (some (wrap64 (x0 + 1))))) else (some (wrap64 (x0 + 1))))
def spec_l1copyFrame.l0 : Nat → List Int → Int → Bool → Int → Bool → Int → List Int → Option (Bool × Int × Bool × Int × List Int)
 | 0,_,_,_,_,_,_,_ => none
 | k + 1,x3,x4,x315000,x315001,x315002,x315003,x315004 => if x4 < (x315004.length : Int) then (if 0 ≤ x4 then (if x3.length < 140737488355328 then (spec_l1copyFrame.l0 k (x3 ++ [rd x315004 x4]) (wrap64 (x4 + 1)) x315000 x315001 x315002 x315003 x315004) else (none)) else (none)) else (some (x315000,x315001,x315002,x315003,x3))
structure TkW (w w1 : World) (cs : Array Value) : Prop where
 box : w1.heap[w.heap.size]? = some (.cells cs 29 (0,0))
 res : w1.heap[w.heap.size + 1]? = some (.cells #[.bool false, .int .u32 0, .bool false, .int .i64 0, .slice none 0 0] 29 (0,0))
 below : Below w.heap.size w w1
theorem TkW.start (w : World) (cs : Array Value) : TkW w ((w.alloc (.cells cs 29)).alloc (.cells #[.bool false, .int .u32 0, .bool false, .int .i64 0, .slice none 0 0] 29)) cs :=
 ⟨blk_alloc (blk_new w _) _,by have h:=blk_new (w.alloc (.cells cs 29)) (.cells #[.bool false, .int .u32 0, .bool false, .int .i64 0, .slice none 0 0] 29);rw [World.size_alloc] at h;exact h,((Below.refl _ _).alloc (Nat.le_refl _) _).alloc (by simp) _⟩
theorem TkW.put {w w1 : World} {cs cs' : Array Value} (h : TkW w w1 cs) {j : Nat} {u : Value} (hc : cs.setIfInBounds j u = cs') : TkW w (w1.setCell ⟨w.heap.size,j,none⟩ u) cs' :=
 ⟨blk_put h.box j u hc,(Below.heap_setCell _ _ _ _ (show w.heap.size + 1 ≠ w.heap.size by omega)).trans h.res,h.below.setCell (Nat.le_refl _) _⟩
theorem TkW.lt {w w1 : World} {cs : Array Value} (h : TkW w w1 cs) : w.heap.size + 1 < w1.heap.size:=(Array.getElem?_eq_some_iff.1 h.res).1
theorem take_2_0 (w0 w : World) (s : SS) (A : Option Addr) (c : Nat) (t : Int) (P : Nat → Prop) (hr : Kd.R (Kd.int .u8) 5 w w0.heap.size P (.slice A s.data.length c) s.data) (hB : Below w0.heap.size w0 w) (hF : ∀ k,w.heap.size ≤ k → P k) (ok : SOk s) (hfld : s.field = 2) :
  Calls Tryd.prog 23 #[.agg #[.bool s.ext, .int .u32 s.id, .bool s.rtr, .int .i64 s.dlc, .slice A s.data.length c], .int .i64 s.field, .int .i64 t, .int .i64 0] w fun e w' => ∃ v' : Value,e = .returned (.agg #[.bool (takeS s 0).ext, .int .u32 (takeS s 0).id, .bool (takeS s 0).rtr, .int .i64 (takeS s 0).dlc,v']) ∧ Kd.R (Kd.int .u8) 5 w' w0.heap.size P v' (takeS s 0).data ∧ Tch w w' P:=by
 have HR:=Lib.hid hr
 have HB:=Lib.hid hB
 have HF:=Lib.hid hF
 have OK:=Lib.hid ok
 rw [hfld]
 have HL : Hid (takeS s 0 = { s with id:=2 * s.id % 536870912 }):=Lib.hid (by unfold takeS;rw [if_pos (by omega)];simp only [Int.add_zero])
 clear hr hB hF ok hfld
 go_enter Tryd.func23,Tryd.ntmps23
 go_wp2_with (fail)
 refine bodyPost_ret (results_cell_row rfl _ _ (w.heap.size + 1) 29 #[.bool s.ext, .int .u32 (2 * s.id % 536870912), .bool s.rtr, .int .i64 s.dlc, .slice A s.data.length c] (0,0) _ rfl (by have h:=blk_new (w.alloc (.cells #[.bool s.ext, .int .u32 (2 * s.id % 536870912), .bool s.rtr, .int .i64 s.dlc, .slice A s.data.length c] 29)) (.cells #[.bool s.ext, .int .u32 (2 * s.id % 536870912), .bool s.rtr, .int .i64 s.dlc, .slice A s.data.length c] 29);rw [World.size_alloc] at h;exact h) Tryd.underlying29 rfl (by kernel_rfl)) rfl ?_
 rw [HL.out]
 have HBZ : Below w.heap.size w ((w.alloc (.cells #[.bool s.ext, .int .u32 (2 * s.id % 536870912), .bool s.rtr, .int .i64 s.dlc, .slice A s.data.length c] 29)).alloc (.cells #[.bool s.ext, .int .u32 (2 * s.id % 536870912), .bool s.rtr, .int .i64 s.dlc, .slice A s.data.length c] 29)):=((Below.refl _ _).alloc (Nat.le_refl _) _).alloc (by simp) _
 exact ⟨_,rfl,Kd.R_below HR.out HBZ,Tch.of_below P HBZ⟩
theorem take_2_1 (w0 w : World) (s : SS) (A : Option Addr) (c : Nat) (t : Int) (P : Nat → Prop) (hr : Kd.R (Kd.int .u8) 5 w w0.heap.size P (.slice A s.data.length c) s.data) (hB : Below w0.heap.size w0 w) (hF : ∀ k,w.heap.size ≤ k → P k) (ok : SOk s) (hfld : s.field = 2) :
  Calls Tryd.prog 23 #[.agg #[.bool s.ext, .int .u32 s.id, .bool s.rtr, .int .i64 s.dlc, .slice A s.data.length c], .int .i64 s.field, .int .i64 t, .int .i64 1] w fun e w' => ∃ v' : Value,e = .returned (.agg #[.bool (takeS s 1).ext, .int .u32 (takeS s 1).id, .bool (takeS s 1).rtr, .int .i64 (takeS s 1).dlc,v']) ∧ Kd.R (Kd.int .u8) 5 w' w0.heap.size P v' (takeS s 1).data ∧ Tch w w' P:=by
 have HR:=Lib.hid hr
 have HB:=Lib.hid hB
 have HF:=Lib.hid hF
 have OK:=Lib.hid ok
 rw [hfld]
 have HL : Hid (takeS s 1 = { s with id:=(2 * s.id % 4294967296 + 1) % 536870912 }):=Lib.hid (by unfold takeS;rw [if_pos (by omega)];rw [show (2 * s.id + 1) % 536870912 = (2 * s.id % 4294967296 + 1) % 536870912 by omega])
 clear hr hB hF ok hfld
 go_enter Tryd.func23,Tryd.ntmps23
 go_wp2_with (fail)
 refine bodyPost_ret (results_cell_row rfl _ _ (w.heap.size + 1) 29 #[.bool s.ext, .int .u32 ((2 * s.id % 4294967296 + 1) % 536870912), .bool s.rtr, .int .i64 s.dlc, .slice A s.data.length c] (0,0) _ rfl (by have h:=blk_new (w.alloc (.cells #[.bool s.ext, .int .u32 ((2 * s.id % 4294967296 + 1) % 536870912), .bool s.rtr, .int .i64 s.dlc, .slice A s.data.length c] 29)) (.cells #[.bool s.ext, .int .u32 ((2 * s.id % 4294967296 + 1) % 536870912), .bool s.rtr, .int .i64 s.dlc, .slice A s.data.length c] 29);rw [World.size_alloc] at h;exact h) Tryd.underlying29 rfl (by kernel_rfl)) rfl ?_
 rw [HL.out]
 have HBZ : Below w.heap.size w ((w.alloc (.cells #[.bool s.ext, .int .u32 ((2 * s.id % 4294967296 + 1) % 536870912), .bool s.rtr, .int .i64 s.dlc, .slice A s.data.length c] 29)).alloc (.cells #[.bool s.ext, .int .u32 ((2 * s.id % 4294967296 + 1) % 536870912), .bool s.rtr, .int .i64 s.dlc, .slice A s.data.length c] 29)):=((Below.refl _ _).alloc (Nat.le_refl _) _).alloc (by simp) _
 exact ⟨_,rfl,Kd.R_below HR.out HBZ,Tch.of_below P HBZ⟩
theorem take_5_0 (w0 w : World) (s : SS) (A : Option Addr) (c : Nat) (t : Int) (P : Nat → Prop) (hr : Kd.R (Kd.int .u8) 5 w w0.heap.size P (.slice A s.data.length c) s.data) (hB : Below w0.heap.size w0 w) (hF : ∀ k,w.heap.size ≤ k → P k) (ok : SOk s) (hfld : s.field = 5) :
  Calls Tryd.prog 23 #[.agg #[.bool s.ext, .int .u32 s.id, .bool s.rtr, .int .i64 s.dlc, .slice A s.data.length c], .int .i64 s.field, .int .i64 t, .int .i64 0] w fun e w' => ∃ v' : Value,e = .returned (.agg #[.bool (takeS s 0).ext, .int .u32 (takeS s 0).id, .bool (takeS s 0).rtr, .int .i64 (takeS s 0).dlc,v']) ∧ Kd.R (Kd.int .u8) 5 w' w0.heap.size P v' (takeS s 0).data ∧ Tch w w' P:=by
 have HR:=Lib.hid hr
 have HB:=Lib.hid hB
 have HF:=Lib.hid hF
 have OK:=Lib.hid ok
 rw [hfld]
 have HL : Hid (takeS s 0 = { s with id:=2 * s.id % 536870912 }):=Lib.hid (by unfold takeS;rw [if_pos (by omega)];simp only [Int.add_zero])
 clear hr hB hF ok hfld
 go_enter Tryd.func23,Tryd.ntmps23
 go_wp2_with (fail)
 refine bodyPost_ret (results_cell_row rfl _ _ (w.heap.size + 1) 29 #[.bool s.ext, .int .u32 (2 * s.id % 536870912), .bool s.rtr, .int .i64 s.dlc, .slice A s.data.length c] (0,0) _ rfl (by have h:=blk_new (w.alloc (.cells #[.bool s.ext, .int .u32 (2 * s.id % 536870912), .bool s.rtr, .int .i64 s.dlc, .slice A s.data.length c] 29)) (.cells #[.bool s.ext, .int .u32 (2 * s.id % 536870912), .bool s.rtr, .int .i64 s.dlc, .slice A s.data.length c] 29);rw [World.size_alloc] at h;exact h) Tryd.underlying29 rfl (by kernel_rfl)) rfl ?_
 rw [HL.out]
 have HBZ : Below w.heap.size w ((w.alloc (.cells #[.bool s.ext, .int .u32 (2 * s.id % 536870912), .bool s.rtr, .int .i64 s.dlc, .slice A s.data.length c] 29)).alloc (.cells #[.bool s.ext, .int .u32 (2 * s.id % 536870912), .bool s.rtr, .int .i64 s.dlc, .slice A s.data.length c] 29)):=((Below.refl _ _).alloc (Nat.le_refl _) _).alloc (by simp) _
 exact ⟨_,rfl,Kd.R_below HR.out HBZ,Tch.of_below P HBZ⟩
theorem take_5_1 (w0 w : World) (s : SS) (A : Option Addr) (c : Nat) (t : Int) (P : Nat → Prop) (hr : Kd.R (Kd.int .u8) 5 w w0.heap.size P (.slice A s.data.length c) s.data) (hB : Below w0.heap.size w0 w) (hF : ∀ k,w.heap.size ≤ k → P k) (ok : SOk s) (hfld : s.field = 5) :
  Calls Tryd.prog 23 #[.agg #[.bool s.ext, .int .u32 s.id, .bool s.rtr, .int .i64 s.dlc, .slice A s.data.length c], .int .i64 s.field, .int .i64 t, .int .i64 1] w fun e w' => ∃ v' : Value,e = .returned (.agg #[.bool (takeS s 1).ext, .int .u32 (takeS s 1).id, .bool (takeS s 1).rtr, .int .i64 (takeS s 1).dlc,v']) ∧ Kd.R (Kd.int .u8) 5 w' w0.heap.size P v' (takeS s 1).data ∧ Tch w w' P:=by
 have HR:=Lib.hid hr
 have HB:=Lib.hid hB
 have HF:=Lib.hid hF
 have OK:=Lib.hid ok
 rw [hfld]
 have HL : Hid (takeS s 1 = { s with id:=(2 * s.id % 4294967296 + 1) % 536870912 }):=Lib.hid (by unfold takeS;rw [if_pos (by omega)];rw [show (2 * s.id + 1) % 536870912 = (2 * s.id % 4294967296 + 1) % 536870912 by omega])
 clear hr hB hF ok hfld
 go_enter Tryd.func23,Tryd.ntmps23
 go_wp2_with (fail)
 refine bodyPost_ret (results_cell_row rfl _ _ (w.heap.size + 1) 29 #[.bool s.ext, .int .u32 ((2 * s.id % 4294967296 + 1) % 536870912), .bool s.rtr, .int .i64 s.dlc, .slice A s.data.length c] (0,0) _ rfl (by have h:=blk_new (w.alloc (.cells #[.bool s.ext, .int .u32 ((2 * s.id % 4294967296 + 1) % 536870912), .bool s.rtr, .int .i64 s.dlc, .slice A s.data.length c] 29)) (.cells #[.bool s.ext, .int .u32 ((2 * s.id % 4294967296 + 1) % 536870912), .bool s.rtr, .int .i64 s.dlc, .slice A s.data.length c] 29);rw [World.size_alloc] at h;exact h) Tryd.underlying29 rfl (by kernel_rfl)) rfl ?_
 rw [HL.out]
 have HBZ : Below w.heap.size w ((w.alloc (.cells #[.bool s.ext, .int .u32 ((2 * s.id % 4294967296 + 1) % 536870912), .bool s.rtr, .int .i64 s.dlc, .slice A s.data.length c] 29)).alloc (.cells #[.bool s.ext, .int .u32 ((2 * s.id % 4294967296 + 1) % 536870912), .bool s.rtr, .int .i64 s.dlc, .slice A s.data.length c] 29)):=((Below.refl _ _).alloc (Nat.le_refl _) _).alloc (by simp) _
 exact ⟨_,rfl,Kd.R_below HR.out HBZ,Tch.of_below P HBZ⟩
theorem take_3_0 (w0 w : World) (s : SS) (A : Option Addr) (c : Nat) (t : Int) (P : Nat → Prop) (hr : Kd.R (Kd.int .u8) 5 w w0.heap.size P (.slice A s.data.length c) s.data) (hB : Below w0.heap.size w0 w) (hF : ∀ k,w.heap.size ≤ k → P k) (ok : SOk s) (hfld : s.field = 3) :
  Calls Tryd.prog 23 #[.agg #[.bool s.ext, .int .u32 s.id, .bool s.rtr, .int .i64 s.dlc, .slice A s.data.length c], .int .i64 s.field, .int .i64 t, .int .i64 0] w fun e w' => ∃ v' : Value,e = .returned (.agg #[.bool (takeS s 0).ext, .int .u32 (takeS s 0).id, .bool (takeS s 0).rtr, .int .i64 (takeS s 0).dlc,v']) ∧ Kd.R (Kd.int .u8) 5 w' w0.heap.size P v' (takeS s 0).data ∧ Tch w w' P:=by
 have HR:=Lib.hid hr
 have HB:=Lib.hid hB
 have HF:=Lib.hid hF
 have OK:=Lib.hid ok
 rw [hfld]
 have HL : Hid (takeS s 0 = { s with rtr:=false }):=Lib.hid (by unfold takeS;rw [if_neg (by omega),if_pos (by omega)];rfl)
 clear hr hB hF ok hfld
 go_enter Tryd.func23,Tryd.ntmps23
 go_wp2_with (fail)
 refine bodyPost_ret (results_cell_row rfl _ _ (w.heap.size + 1) 29 #[.bool s.ext, .int .u32 s.id, .bool false, .int .i64 s.dlc, .slice A s.data.length c] (0,0) _ rfl (by have h:=blk_new (w.alloc (.cells #[.bool s.ext, .int .u32 s.id, .bool false, .int .i64 s.dlc, .slice A s.data.length c] 29)) (.cells #[.bool s.ext, .int .u32 s.id, .bool false, .int .i64 s.dlc, .slice A s.data.length c] 29);rw [World.size_alloc] at h;exact h) Tryd.underlying29 rfl (by kernel_rfl)) rfl ?_
 rw [HL.out]
 have HBZ : Below w.heap.size w ((w.alloc (.cells #[.bool s.ext, .int .u32 s.id, .bool false, .int .i64 s.dlc, .slice A s.data.length c] 29)).alloc (.cells #[.bool s.ext, .int .u32 s.id, .bool false, .int .i64 s.dlc, .slice A s.data.length c] 29)):=((Below.refl _ _).alloc (Nat.le_refl _) _).alloc (by simp) _
 exact ⟨_,rfl,Kd.R_below HR.out HBZ,Tch.of_below P HBZ⟩
theorem take_3_1 (w0 w : World) (s : SS) (A : Option Addr) (c : Nat) (t : Int) (P : Nat → Prop) (hr : Kd.R (Kd.int .u8) 5 w w0.heap.size P (.slice A s.data.length c) s.data) (hB : Below w0.heap.size w0 w) (hF : ∀ k,w.heap.size ≤ k → P k) (ok : SOk s) (hfld : s.field = 3) :
  Calls Tryd.prog 23 #[.agg #[.bool s.ext, .int .u32 s.id, .bool s.rtr, .int .i64 s.dlc, .slice A s.data.length c], .int .i64 s.field, .int .i64 t, .int .i64 1] w fun e w' => ∃ v' : Value,e = .returned (.agg #[.bool (takeS s 1).ext, .int .u32 (takeS s 1).id, .bool (takeS s 1).rtr, .int .i64 (takeS s 1).dlc,v']) ∧ Kd.R (Kd.int .u8) 5 w' w0.heap.size P v' (takeS s 1).data ∧ Tch w w' P:=by
 have HR:=Lib.hid hr
 have HB:=Lib.hid hB
 have HF:=Lib.hid hF
 have OK:=Lib.hid ok
 rw [hfld]
 have HL : Hid (takeS s 1 = { s with rtr:=true }):=Lib.hid (by unfold takeS;rw [if_neg (by omega),if_pos (by omega)];rfl)
 clear hr hB hF ok hfld
 go_enter Tryd.func23,Tryd.ntmps23
 go_wp2_with (fail)
 refine bodyPost_ret (results_cell_row rfl _ _ (w.heap.size + 1) 29 #[.bool s.ext, .int .u32 s.id, .bool true, .int .i64 s.dlc, .slice A s.data.length c] (0,0) _ rfl (by have h:=blk_new (w.alloc (.cells #[.bool s.ext, .int .u32 s.id, .bool true, .int .i64 s.dlc, .slice A s.data.length c] 29)) (.cells #[.bool s.ext, .int .u32 s.id, .bool true, .int .i64 s.dlc, .slice A s.data.length c] 29);rw [World.size_alloc] at h;exact h) Tryd.underlying29 rfl (by kernel_rfl)) rfl ?_
 rw [HL.out]
 have HBZ : Below w.heap.size w ((w.alloc (.cells #[.bool s.ext, .int .u32 s.id, .bool true, .int .i64 s.dlc, .slice A s.data.length c] 29)).alloc (.cells #[.bool s.ext, .int .u32 s.id, .bool true, .int .i64 s.dlc, .slice A s.data.length c] 29)):=((Below.refl _ _).alloc (Nat.le_refl _) _).alloc (by simp) _
 exact ⟨_,rfl,Kd.R_below HR.out HBZ,Tch.of_below P HBZ⟩
theorem take_6_0 (w0 w : World) (s : SS) (A : Option Addr) (c : Nat) (t : Int) (P : Nat → Prop) (hr : Kd.R (Kd.int .u8) 5 w w0.heap.size P (.slice A s.data.length c) s.data) (hB : Below w0.heap.size w0 w) (hF : ∀ k,w.heap.size ≤ k → P k) (ok : SOk s) (hfld : s.field = 6) :
  Calls Tryd.prog 23 #[.agg #[.bool s.ext, .int .u32 s.id, .bool s.rtr, .int .i64 s.dlc, .slice A s.data.length c], .int .i64 s.field, .int .i64 t, .int .i64 0] w fun e w' => ∃ v' : Value,e = .returned (.agg #[.bool (takeS s 0).ext, .int .u32 (takeS s 0).id, .bool (takeS s 0).rtr, .int .i64 (takeS s 0).dlc,v']) ∧ Kd.R (Kd.int .u8) 5 w' w0.heap.size P v' (takeS s 0).data ∧ Tch w w' P:=by
 have HR:=Lib.hid hr
 have HB:=Lib.hid hB
 have HF:=Lib.hid hF
 have OK:=Lib.hid ok
 rw [hfld]
 have HL : Hid (takeS s 0 = { s with rtr:=false }):=Lib.hid (by unfold takeS;rw [if_neg (by omega),if_pos (by omega)];rfl)
 clear hr hB hF ok hfld
 go_enter Tryd.func23,Tryd.ntmps23
 go_wp2_with (fail)
 refine bodyPost_ret (results_cell_row rfl _ _ (w.heap.size + 1) 29 #[.bool s.ext, .int .u32 s.id, .bool false, .int .i64 s.dlc, .slice A s.data.length c] (0,0) _ rfl (by have h:=blk_new (w.alloc (.cells #[.bool s.ext, .int .u32 s.id, .bool false, .int .i64 s.dlc, .slice A s.data.length c] 29)) (.cells #[.bool s.ext, .int .u32 s.id, .bool false, .int .i64 s.dlc, .slice A s.data.length c] 29);rw [World.size_alloc] at h;exact h) Tryd.underlying29 rfl (by kernel_rfl)) rfl ?_
 rw [HL.out]
 have HBZ : Below w.heap.size w ((w.alloc (.cells #[.bool s.ext, .int .u32 s.id, .bool false, .int .i64 s.dlc, .slice A s.data.length c] 29)).alloc (.cells #[.bool s.ext, .int .u32 s.id, .bool false, .int .i64 s.dlc, .slice A s.data.length c] 29)):=((Below.refl _ _).alloc (Nat.le_refl _) _).alloc (by simp) _
 exact ⟨_,rfl,Kd.R_below HR.out HBZ,Tch.of_below P HBZ⟩
theorem take_6_1 (w0 w : World) (s : SS) (A : Option Addr) (c : Nat) (t : Int) (P : Nat → Prop) (hr : Kd.R (Kd.int .u8) 5 w w0.heap.size P (.slice A s.data.length c) s.data) (hB : Below w0.heap.size w0 w) (hF : ∀ k,w.heap.size ≤ k → P k) (ok : SOk s) (hfld : s.field = 6) :
  Calls Tryd.prog 23 #[.agg #[.bool s.ext, .int .u32 s.id, .bool s.rtr, .int .i64 s.dlc, .slice A s.data.length c], .int .i64 s.field, .int .i64 t, .int .i64 1] w fun e w' => ∃ v' : Value,e = .returned (.agg #[.bool (takeS s 1).ext, .int .u32 (takeS s 1).id, .bool (takeS s 1).rtr, .int .i64 (takeS s 1).dlc,v']) ∧ Kd.R (Kd.int .u8) 5 w' w0.heap.size P v' (takeS s 1).data ∧ Tch w w' P:=by
 have HR:=Lib.hid hr
 have HB:=Lib.hid hB
 have HF:=Lib.hid hF
 have OK:=Lib.hid ok
 rw [hfld]
 have HL : Hid (takeS s 1 = { s with rtr:=true }):=Lib.hid (by unfold takeS;rw [if_neg (by omega),if_pos (by omega)];rfl)
 clear hr hB hF ok hfld
 go_enter Tryd.func23,Tryd.ntmps23
 go_wp2_with (fail)
 refine bodyPost_ret (results_cell_row rfl _ _ (w.heap.size + 1) 29 #[.bool s.ext, .int .u32 s.id, .bool true, .int .i64 s.dlc, .slice A s.data.length c] (0,0) _ rfl (by have h:=blk_new (w.alloc (.cells #[.bool s.ext, .int .u32 s.id, .bool true, .int .i64 s.dlc, .slice A s.data.length c] 29)) (.cells #[.bool s.ext, .int .u32 s.id, .bool true, .int .i64 s.dlc, .slice A s.data.length c] 29);rw [World.size_alloc] at h;exact h) Tryd.underlying29 rfl (by kernel_rfl)) rfl ?_
 rw [HL.out]
 have HBZ : Below w.heap.size w ((w.alloc (.cells #[.bool s.ext, .int .u32 s.id, .bool true, .int .i64 s.dlc, .slice A s.data.length c] 29)).alloc (.cells #[.bool s.ext, .int .u32 s.id, .bool true, .int .i64 s.dlc, .slice A s.data.length c] 29)):=((Below.refl _ _).alloc (Nat.le_refl _) _).alloc (by simp) _
 exact ⟨_,rfl,Kd.R_below HR.out HBZ,Tch.of_below P HBZ⟩
theorem take_4_0 (w0 w : World) (s : SS) (A : Option Addr) (c : Nat) (t : Int) (P : Nat → Prop) (hr : Kd.R (Kd.int .u8) 5 w w0.heap.size P (.slice A s.data.length c) s.data) (hB : Below w0.heap.size w0 w) (hF : ∀ k,w.heap.size ≤ k → P k) (ok : SOk s) (hfld : s.field = 4) :
  Calls Tryd.prog 23 #[.agg #[.bool s.ext, .int .u32 s.id, .bool s.rtr, .int .i64 s.dlc, .slice A s.data.length c], .int .i64 s.field, .int .i64 t, .int .i64 0] w fun e w' => ∃ v' : Value,e = .returned (.agg #[.bool (takeS s 0).ext, .int .u32 (takeS s 0).id, .bool (takeS s 0).rtr, .int .i64 (takeS s 0).dlc,v']) ∧ Kd.R (Kd.int .u8) 5 w' w0.heap.size P v' (takeS s 0).data ∧ Tch w w' P:=by
 have HR:=Lib.hid hr
 have HB:=Lib.hid hB
 have HF:=Lib.hid hF
 have OK:=Lib.hid ok
 rw [hfld]
 have HL : Hid (takeS s 0 = { s with ext:=false }):=Lib.hid (by unfold takeS;rw [if_neg (by omega),if_neg (by omega),if_pos hfld];rfl)
 clear hr hB hF ok hfld
 go_enter Tryd.func23,Tryd.ntmps23
 go_wp2_with (fail)
 refine bodyPost_ret (results_cell_row rfl _ _ (w.heap.size + 1) 29 #[.bool false, .int .u32 s.id, .bool s.rtr, .int .i64 s.dlc, .slice A s.data.length c] (0,0) _ rfl (by have h:=blk_new (w.alloc (.cells #[.bool false, .int .u32 s.id, .bool s.rtr, .int .i64 s.dlc, .slice A s.data.length c] 29)) (.cells #[.bool false, .int .u32 s.id, .bool s.rtr, .int .i64 s.dlc, .slice A s.data.length c] 29);rw [World.size_alloc] at h;exact h) Tryd.underlying29 rfl (by kernel_rfl)) rfl ?_
 rw [HL.out]
 have HBZ : Below w.heap.size w ((w.alloc (.cells #[.bool false, .int .u32 s.id, .bool s.rtr, .int .i64 s.dlc, .slice A s.data.length c] 29)).alloc (.cells #[.bool false, .int .u32 s.id, .bool s.rtr, .int .i64 s.dlc, .slice A s.data.length c] 29)):=((Below.refl _ _).alloc (Nat.le_refl _) _).alloc (by simp) _
 exact ⟨_,rfl,Kd.R_below HR.out HBZ,Tch.of_below P HBZ⟩
theorem take_4_1 (w0 w : World) (s : SS) (A : Option Addr) (c : Nat) (t : Int) (P : Nat → Prop) (hr : Kd.R (Kd.int .u8) 5 w w0.heap.size P (.slice A s.data.length c) s.data) (hB : Below w0.heap.size w0 w) (hF : ∀ k,w.heap.size ≤ k → P k) (ok : SOk s) (hfld : s.field = 4) :
  Calls Tryd.prog 23 #[.agg #[.bool s.ext, .int .u32 s.id, .bool s.rtr, .int .i64 s.dlc, .slice A s.data.length c], .int .i64 s.field, .int .i64 t, .int .i64 1] w fun e w' => ∃ v' : Value,e = .returned (.agg #[.bool (takeS s 1).ext, .int .u32 (takeS s 1).id, .bool (takeS s 1).rtr, .int .i64 (takeS s 1).dlc,v']) ∧ Kd.R (Kd.int .u8) 5 w' w0.heap.size P v' (takeS s 1).data ∧ Tch w w' P:=by
 have HR:=Lib.hid hr
 have HB:=Lib.hid hB
 have HF:=Lib.hid hF
 have OK:=Lib.hid ok
 rw [hfld]
 have HL : Hid (takeS s 1 = { s with ext:=true,rtr:=false }):=Lib.hid (by unfold takeS;rw [if_neg (by omega),if_neg (by omega),if_pos hfld];rfl)
 clear hr hB hF ok hfld
 go_enter Tryd.func23,Tryd.ntmps23
 go_wp2_with (fail)
 refine bodyPost_ret (results_cell_row rfl _ _ (w.heap.size + 1) 29 #[.bool true, .int .u32 s.id, .bool false, .int .i64 s.dlc, .slice A s.data.length c] (0,0) _ rfl (by have h:=blk_new (w.alloc (.cells #[.bool true, .int .u32 s.id, .bool false, .int .i64 s.dlc, .slice A s.data.length c] 29)) (.cells #[.bool true, .int .u32 s.id, .bool false, .int .i64 s.dlc, .slice A s.data.length c] 29);rw [World.size_alloc] at h;exact h) Tryd.underlying29 rfl (by kernel_rfl)) rfl ?_
 rw [HL.out]
 have HBZ : Below w.heap.size w ((w.alloc (.cells #[.bool true, .int .u32 s.id, .bool false, .int .i64 s.dlc, .slice A s.data.length c] 29)).alloc (.cells #[.bool true, .int .u32 s.id, .bool false, .int .i64 s.dlc, .slice A s.data.length c] 29)):=((Below.refl _ _).alloc (Nat.le_refl _) _).alloc (by simp) _
 exact ⟨_,rfl,Kd.R_below HR.out HBZ,Tch.of_below P HBZ⟩
theorem take_8_0 (w0 w : World) (s : SS) (A : Option Addr) (c : Nat) (t : Int) (P : Nat → Prop) (hr : Kd.R (Kd.int .u8) 5 w w0.heap.size P (.slice A s.data.length c) s.data) (hB : Below w0.heap.size w0 w) (hF : ∀ k,w.heap.size ≤ k → P k) (ok : SOk s) (hfld : s.field = 8) :
  Calls Tryd.prog 23 #[.agg #[.bool s.ext, .int .u32 s.id, .bool s.rtr, .int .i64 s.dlc, .slice A s.data.length c], .int .i64 s.field, .int .i64 t, .int .i64 0] w fun e w' => ∃ v' : Value,e = .returned (.agg #[.bool (takeS s 0).ext, .int .u32 (takeS s 0).id, .bool (takeS s 0).rtr, .int .i64 (takeS s 0).dlc,v']) ∧ Kd.R (Kd.int .u8) 5 w' w0.heap.size P v' (takeS s 0).data ∧ Tch w w' P:=by
 have HR:=Lib.hid hr
 have HB:=Lib.hid hB
 have HF:=Lib.hid hF
 have OK:=Lib.hid ok
 rw [hfld]
 have d0:=ok.d0
 have d1:=ok.d1
 have HL : Hid (takeS s 0 = { s with dlc:=2 * s.dlc % 16 }):=Lib.hid (by unfold takeS;rw [if_neg (by omega),if_neg (by omega),if_neg (by omega),if_pos hfld];simp only [Int.add_zero])
 clear hr hB hF ok hfld
 go_enter Tryd.func23,Tryd.ntmps23
 go_wp2_with (fail)
 refine bodyPost_ret (results_cell_row rfl _ _ (w.heap.size + 1) 29 #[.bool s.ext, .int .u32 s.id, .bool s.rtr, .int .i64 (2 * s.dlc % 16), .slice A s.data.length c] (0,0) _ rfl (by have h:=blk_new (w.alloc (.cells #[.bool s.ext, .int .u32 s.id, .bool s.rtr, .int .i64 (2 * s.dlc % 16), .slice A s.data.length c] 29)) (.cells #[.bool s.ext, .int .u32 s.id, .bool s.rtr, .int .i64 (2 * s.dlc % 16), .slice A s.data.length c] 29);rw [World.size_alloc] at h;exact h) Tryd.underlying29 rfl (by kernel_rfl)) rfl ?_
 rw [HL.out]
 have HBZ : Below w.heap.size w ((w.alloc (.cells #[.bool s.ext, .int .u32 s.id, .bool s.rtr, .int .i64 (2 * s.dlc % 16), .slice A s.data.length c] 29)).alloc (.cells #[.bool s.ext, .int .u32 s.id, .bool s.rtr, .int .i64 (2 * s.dlc % 16), .slice A s.data.length c] 29)):=((Below.refl _ _).alloc (Nat.le_refl _) _).alloc (by simp) _
 exact ⟨_,rfl,Kd.R_below HR.out HBZ,Tch.of_below P HBZ⟩
theorem take_8_1 (w0 w : World) (s : SS) (A : Option Addr) (c : Nat) (t : Int) (P : Nat → Prop) (hr : Kd.R (Kd.int .u8) 5 w w0.heap.size P (.slice A s.data.length c) s.data) (hB : Below w0.heap.size w0 w) (hF : ∀ k,w.heap.size ≤ k → P k) (ok : SOk s) (hfld : s.field = 8) :
  Calls Tryd.prog 23 #[.agg #[.bool s.ext, .int .u32 s.id, .bool s.rtr, .int .i64 s.dlc, .slice A s.data.length c], .int .i64 s.field, .int .i64 t, .int .i64 1] w fun e w' => ∃ v' : Value,e = .returned (.agg #[.bool (takeS s 1).ext, .int .u32 (takeS s 1).id, .bool (takeS s 1).rtr, .int .i64 (takeS s 1).dlc,v']) ∧ Kd.R (Kd.int .u8) 5 w' w0.heap.size P v' (takeS s 1).data ∧ Tch w w' P:=by
 have HR:=Lib.hid hr
 have HB:=Lib.hid hB
 have HF:=Lib.hid hF
 have OK:=Lib.hid ok
 rw [hfld]
 have d0:=ok.d0
 have d1:=ok.d1
 have HL : Hid (takeS s 1 = { s with dlc:=(2 * s.dlc + 1) % 16 }):=Lib.hid (by unfold takeS;rw [if_neg (by omega),if_neg (by omega),if_neg (by omega),if_pos hfld])
 clear hr hB hF ok hfld
 go_enter Tryd.func23,Tryd.ntmps23
 go_wp2_with (fail)
 refine bodyPost_ret (results_cell_row rfl _ _ (w.heap.size + 1) 29 #[.bool s.ext, .int .u32 s.id, .bool s.rtr, .int .i64 ((2 * s.dlc + 1) % 16), .slice A s.data.length c] (0,0) _ rfl (by have h:=blk_new (w.alloc (.cells #[.bool s.ext, .int .u32 s.id, .bool s.rtr, .int .i64 ((2 * s.dlc + 1) % 16), .slice A s.data.length c] 29)) (.cells #[.bool s.ext, .int .u32 s.id, .bool s.rtr, .int .i64 ((2 * s.dlc + 1) % 16), .slice A s.data.length c] 29);rw [World.size_alloc] at h;exact h) Tryd.underlying29 rfl (by kernel_rfl)) rfl ?_
 rw [HL.out]
 have HBZ : Below w.heap.size w ((w.alloc (.cells #[.bool s.ext, .int .u32 s.id, .bool s.rtr, .int .i64 ((2 * s.dlc + 1) % 16), .slice A s.data.length c] 29)).alloc (.cells #[.bool s.ext, .int .u32 s.id, .bool s.rtr, .int .i64 ((2 * s.dlc + 1) % 16), .slice A s.data.length c] 29)):=((Below.refl _ _).alloc (Nat.le_refl _) _).alloc (by simp) _
 exact ⟨_,rfl,Kd.R_below HR.out HBZ,Tch.of_below P HBZ⟩
theorem take_other (w0 w : World) (s : SS) (A : Option Addr) (c : Nat) (t : Int) (P : Nat → Prop) (hr : Kd.R (Kd.int .u8) 5 w w0.heap.size P (.slice A s.data.length c) s.data) (hB : Below w0.heap.size w0 w) (hF : ∀ k,w.heap.size ≤ k → P k) (ok : SOk s) (b : Int) (hfld : s.field ≠ 2 ∧ s.field ≠ 5 ∧ s.field ≠ 3 ∧ s.field ≠ 6 ∧ s.field ≠ 4 ∧ s.field ≠ 8 ∧ s.field ≠ 9) :
  Calls Tryd.prog 23 #[.agg #[.bool s.ext, .int .u32 s.id, .bool s.rtr, .int .i64 s.dlc, .slice A s.data.length c], .int .i64 s.field, .int .i64 t, .int .i64 b] w fun e w' => ∃ v' : Value,e = .returned (.agg #[.bool (takeS s b).ext, .int .u32 (takeS s b).id, .bool (takeS s b).rtr, .int .i64 (takeS s b).dlc,v']) ∧ Kd.R (Kd.int .u8) 5 w' w0.heap.size P v' (takeS s b).data ∧ Tch w w' P:=by
 have HR:=Lib.hid hr
 obtain ⟨h2,h5,h3,h6,h4,h8,h9⟩:=hfld
 have b2 : (s.field == 2) = false:=beq_eq_false_iff_ne.mpr h2
 have b5 : (s.field == 5) = false:=beq_eq_false_iff_ne.mpr h5
 have b3 : (s.field == 3) = false:=beq_eq_false_iff_ne.mpr h3
 have b6 : (s.field == 6) = false:=beq_eq_false_iff_ne.mpr h6
 have b4 : (s.field == 4) = false:=beq_eq_false_iff_ne.mpr h4
 have b8 : (s.field == 8) = false:=beq_eq_false_iff_ne.mpr h8
 have b9 : (s.field == 9) = false:=beq_eq_false_iff_ne.mpr h9
 have HL : Hid ((takeS s b).ext = s.ext ∧ (takeS s b).id = s.id ∧ (takeS s b).rtr = s.rtr ∧ (takeS s b).dlc = s.dlc ∧ (takeS s b).data = s.data):=Lib.hid (by
  unfold takeS
  rw [if_neg (by omega),if_neg (by omega),if_neg h4,if_neg h8,if_neg h9]
  split <;> exact ⟨rfl,rfl,rfl,rfl,rfl⟩)
 clear hr hB hF ok h2 h5 h3 h6 h4 h8 h9
 go_enter Tryd.func23,Tryd.ntmps23
 go_wp2_with (fail)
 refine bodyPost_ret (results_cell_row rfl _ _ (w.heap.size + 1) 29 #[.bool s.ext, .int .u32 s.id, .bool s.rtr, .int .i64 s.dlc, .slice A s.data.length c] (0,0) _ rfl (by have h:=blk_new (w.alloc (.cells #[.bool s.ext, .int .u32 s.id, .bool s.rtr, .int .i64 s.dlc, .slice A s.data.length c] 29)) (.cells #[.bool s.ext, .int .u32 s.id, .bool s.rtr, .int .i64 s.dlc, .slice A s.data.length c] 29);rw [World.size_alloc] at h;exact h) Tryd.underlying29 rfl (by kernel_rfl)) rfl ?_
 obtain ⟨e1,e2,e3,e4,e5⟩:=HL.out
 rw [e1,e2,e3,e4,e5]
 have HBZ : Below w.heap.size w ((w.alloc (.cells #[.bool s.ext, .int .u32 s.id, .bool s.rtr, .int .i64 s.dlc, .slice A s.data.length c] 29)).alloc (.cells #[.bool s.ext, .int .u32 s.id, .bool s.rtr, .int .i64 s.dlc, .slice A s.data.length c] 29)):=((Below.refl _ _).alloc (Nat.le_refl _) _).alloc (by simp) _
 exact ⟨_,rfl,Kd.R_below HR.out HBZ,Tch.of_below P HBZ⟩
set_option maxRecDepth 100000 in
theorem take_9_0_app (w0 w : World) (s : SS) (A : Option Addr) (c : Nat) (t : Int) (P : Nat → Prop) (hr : Kd.R (Kd.int .u8) 5 w w0.heap.size P (.slice A s.data.length c) s.data) (hB : Below w0.heap.size w0 w) (hF : ∀ k,w.heap.size ≤ k → P k) (ok : SOk s) (hfld : s.field = 9) (hm : Int.tmod t 8 = 0) (hm8 : s.left % 8 = 0) :
  Calls Tryd.prog 23 #[.agg #[.bool s.ext, .int .u32 s.id, .bool s.rtr, .int .i64 s.dlc, .slice A s.data.length c], .int .i64 s.field, .int .i64 t, .int .i64 0] w fun e w' => ∃ v' : Value,e = .returned (.agg #[.bool (takeS s 0).ext, .int .u32 (takeS s 0).id, .bool (takeS s 0).rtr, .int .i64 (takeS s 0).dlc,v']) ∧ Kd.R (Kd.int .u8) 5 w' w0.heap.size P v' (takeS s 0).data ∧ Tch w w' P:=by
 have HR:=Lib.hid hr
 have HB:=Lib.hid hB
 have HF:=Lib.hid hF
 have hdl:=ok.dl
 have hmb : (Int.tmod t 8 == 0) = true:=beq_iff_eq.mpr hm
 have HLT:=Lib.hid (Kd.R_lt hr)
 rw [hfld]
 have HL : Hid (takeS s 0 = { s with data:=s.data ++ [0] }):=Lib.hid (by
  have hd : dataS s 0 = s.data ++ [0]:=by
   unfold dataS
   simp only []
   rw [if_pos hm8]
   have hr : rd (s.data ++ [0]) (((s.data ++ [0]).length : Int) - 1) = 0:=by
    have : (((s.data ++ [0]).length : Int) - 1) = (s.data.length : Int):=by rw [List.length_append,List.length_singleton];omega
    rw [this]
    unfold rd
    rw [Int.toNat_natCast,List.getD_eq_getElem?_getD,List.getElem?_append_right (Nat.le_refl _),Nat.sub_self];rfl
   rw [hr,List.length_append,List.length_singleton,show s.data.length + 1 - 1 = s.data.length by omega,List.set_append_right _ _ (Nat.le_refl _),Nat.sub_self]
   rfl
  unfold takeS
  rw [if_neg (by omega),if_neg (by omega),if_neg (by omega),if_neg (by omega),if_pos hfld,hd])
 have HW:=Lib.hid (TkW.start w #[.bool s.ext, .int .u32 s.id, .bool s.rtr, .int .i64 s.dlc, .slice A s.data.length c])
 clear hr hB hF ok hfld hm
 go_enter Tryd.func23,Tryd.ntmps23
 go_wp2_with (first | (at_builtin;go_loud (refine Kd.R_append (Kd.int .u8) (w0:=w0) w0.heap.size rfl (.tmp 51) (.tmp 54) 23 5 (.int .u8 0) 1 rfl Tryd.underlying23 infoU8s rfl (by decide) (by omega) (.slice A s.data.length c) s.data 0 [.int .u8 0] P (fun _ => False) rfl (by first | (go_simp;done) | (go_simp;rfl)) ?aP (fun _ hk => hk.elim) ?aF ?aO ?aB ?aS ?aL ?_;(case aP => exact rfl);(case aF => exact fun k hk => HF.out k (by have:=HW.out.below.size;omega));(case aO => exact Kd.R_below HR.out HW.out.below);(case aB => exact HB.out.trans (HW.out.below.mono HB.out.size));(case aS => have:=HB.out.size;have:=HW.out.below.size;omega);(case aL => omega);intro v1 w2 ho hb hg hat;obtain ⟨A1,c1,rfl⟩:=Kd.R_slice ho;rw [List.length_append,List.length_singleton] at ho;have HO:=Lib.hid ho;have HTG:=Lib.hid ((Tch.of_below P HW.out.below).grown hg (fun k hk => .inl (HR.out.1 k hk)));have HBX:=Lib.hid (blk_grown HW.out.box hg (fun e => by have:=HLT.out _ e.symm;omega));have HRX:=Lib.hid (blk_grown HW.out.res hg (fun e => by have:=HLT.out _ e.symm;omega));clear ho hb hg hat;have hq0:=blk_cell HBX.out 0;have hq1:=blk_cell HBX.out 1;have hq2:=blk_cell HBX.out 2;have hq3:=blk_cell HBX.out 3;have hq4:=blk_cell HBX.out 4;have hqf:=blk_frozen HBX.out 4;simp at hq0 hq1 hq2 hq3 hq4;have HRX2:=Lib.hid ((Below.heap_setCell w2 ⟨w.heap.size,4,none⟩ (.slice A1 (s.data.length + 1) c1) (w.heap.size + 1) (show w.heap.size + 1 ≠ w.heap.size by omega)).trans HRX.out))) | ((with_reducible refine gate_store (t:=29) (p:=8) rfl ?_);refine store_box rfl rfl rfl (g:=w.heap.size + 1) (j:=0) (cs := #[.bool false, .int .u32 0, .bool false, .int .i64 0, .slice none 0 0]) (cs' := #[.bool s.ext, .int .u32 s.id, .bool s.rtr, .int .i64 s.dlc,(.slice A1 (s.data.length + 1) c1)]) (T:=29) (u := .agg #[.bool s.ext, .int .u32 s.id, .bool s.rtr, .int .i64 s.dlc,(.slice A1 (s.data.length + 1) c1)]) (seg := [.bool s.ext, .int .u32 s.id, .bool s.rtr, .int .i64 s.dlc,(.slice A1 (s.data.length + 1) c1)]) rfl rfl HRX2.out rfl (by kernel_rfl) rfl rfl rfl ?_;intro wz hx hT;have HX:=Lib.hid hx;have HTZ:=Lib.hid hT;clear hx hT))
 refine bodyPost_ret (results_cell_row rfl _ _ (w.heap.size + 1) 29 #[.bool s.ext, .int .u32 s.id, .bool s.rtr, .int .i64 s.dlc,(.slice A1 (s.data.length + 1) c1)] (0,0) _ rfl HX.out Tryd.underlying29 rfl (by kernel_rfl)) rfl ?_
 rw [HL.out]
 have hpp : P w.heap.size:=HF.out _ (Nat.le_refl _)
 have hpq : P (w.heap.size + 1):=HF.out _ (by omega)
 refine ⟨_,rfl, ?_,(HTG.out.setCell (.inl hpp) _).then_ (HTZ.out) (fun k hk => .inl (hk ▸ hpq))⟩
 exact R_tch (R_tch HO.out HBX.out (by decide) ((Tch.refl1 _ _).one 4 _)) HRX2.out (by decide) HTZ.out
set_option maxRecDepth 100000 in
theorem take_9_1_app (w0 w : World) (s : SS) (A : Option Addr) (c : Nat) (t : Int) (P : Nat → Prop) (hr : Kd.R (Kd.int .u8) 5 w w0.heap.size P (.slice A s.data.length c) s.data) (hB : Below w0.heap.size w0 w) (hF : ∀ k,w.heap.size ≤ k → P k) (ok : SOk s) (hfld : s.field = 9) (hm : Int.tmod t 8 = 0) (hm8 : s.left % 8 = 0) :
  Calls Tryd.prog 23 #[.agg #[.bool s.ext, .int .u32 s.id, .bool s.rtr, .int .i64 s.dlc, .slice A s.data.length c], .int .i64 s.field, .int .i64 t, .int .i64 1] w fun e w' => ∃ v' : Value,e = .returned (.agg #[.bool (takeS s 1).ext, .int .u32 (takeS s 1).id, .bool (takeS s 1).rtr, .int .i64 (takeS s 1).dlc,v']) ∧ Kd.R (Kd.int .u8) 5 w' w0.heap.size P v' (takeS s 1).data ∧ Tch w w' P:=by
 have HR:=Lib.hid hr
 have HB:=Lib.hid hB
 have HF:=Lib.hid hF
 have hdl:=ok.dl
 have hmb : (Int.tmod t 8 == 0) = true:=beq_iff_eq.mpr hm
 have HLT:=Lib.hid (Kd.R_lt hr)
 rw [hfld]
 have HL : Hid (takeS s 1 = { s with data:=s.data ++ [1] }):=Lib.hid (by
  have hd : dataS s 1 = s.data ++ [1]:=by
   unfold dataS
   simp only []
   rw [if_pos hm8]
   have hr : rd (s.data ++ [0]) (((s.data ++ [0]).length : Int) - 1) = 0:=by
    have : (((s.data ++ [0]).length : Int) - 1) = (s.data.length : Int):=by rw [List.length_append,List.length_singleton];omega
    rw [this]
    unfold rd
    rw [Int.toNat_natCast,List.getD_eq_getElem?_getD,List.getElem?_append_right (Nat.le_refl _),Nat.sub_self];rfl
   rw [hr,List.length_append,List.length_singleton,show s.data.length + 1 - 1 = s.data.length by omega,List.set_append_right _ _ (Nat.le_refl _),Nat.sub_self]
   rfl
  unfold takeS
  rw [if_neg (by omega),if_neg (by omega),if_neg (by omega),if_neg (by omega),if_pos hfld,hd])
 have HW:=Lib.hid (TkW.start w #[.bool s.ext, .int .u32 s.id, .bool s.rtr, .int .i64 s.dlc, .slice A s.data.length c])
 clear hr hB hF ok hfld hm
 go_enter Tryd.func23,Tryd.ntmps23
 go_wp2_with (first | (at_builtin;go_loud (refine Kd.R_append (Kd.int .u8) (w0:=w0) w0.heap.size rfl (.tmp 51) (.tmp 54) 23 5 (.int .u8 0) 1 rfl Tryd.underlying23 infoU8s rfl (by decide) (by omega) (.slice A s.data.length c) s.data 1 [.int .u8 1] P (fun _ => False) rfl (by first | (go_simp;done) | (go_simp;rfl)) ?aP (fun _ hk => hk.elim) ?aF ?aO ?aB ?aS ?aL ?_;(case aP => exact rfl);(case aF => exact fun k hk => HF.out k (by have:=HW.out.below.size;omega));(case aO => exact Kd.R_below HR.out HW.out.below);(case aB => exact HB.out.trans (HW.out.below.mono HB.out.size));(case aS => have:=HB.out.size;have:=HW.out.below.size;omega);(case aL => omega);intro v1 w2 ho hb hg hat;obtain ⟨A1,c1,rfl⟩:=Kd.R_slice ho;rw [List.length_append,List.length_singleton] at ho;have HO:=Lib.hid ho;have HTG:=Lib.hid ((Tch.of_below P HW.out.below).grown hg (fun k hk => .inl (HR.out.1 k hk)));have HBX:=Lib.hid (blk_grown HW.out.box hg (fun e => by have:=HLT.out _ e.symm;omega));have HRX:=Lib.hid (blk_grown HW.out.res hg (fun e => by have:=HLT.out _ e.symm;omega));clear ho hb hg hat;have hq0:=blk_cell HBX.out 0;have hq1:=blk_cell HBX.out 1;have hq2:=blk_cell HBX.out 2;have hq3:=blk_cell HBX.out 3;have hq4:=blk_cell HBX.out 4;have hqf:=blk_frozen HBX.out 4;simp at hq0 hq1 hq2 hq3 hq4;have HRX2:=Lib.hid ((Below.heap_setCell w2 ⟨w.heap.size,4,none⟩ (.slice A1 (s.data.length + 1) c1) (w.heap.size + 1) (show w.heap.size + 1 ≠ w.heap.size by omega)).trans HRX.out))) | ((with_reducible refine gate_store (t:=29) (p:=8) rfl ?_);refine store_box rfl rfl rfl (g:=w.heap.size + 1) (j:=0) (cs := #[.bool false, .int .u32 0, .bool false, .int .i64 0, .slice none 0 0]) (cs' := #[.bool s.ext, .int .u32 s.id, .bool s.rtr, .int .i64 s.dlc,(.slice A1 (s.data.length + 1) c1)]) (T:=29) (u := .agg #[.bool s.ext, .int .u32 s.id, .bool s.rtr, .int .i64 s.dlc,(.slice A1 (s.data.length + 1) c1)]) (seg := [.bool s.ext, .int .u32 s.id, .bool s.rtr, .int .i64 s.dlc,(.slice A1 (s.data.length + 1) c1)]) rfl rfl HRX2.out rfl (by kernel_rfl) rfl rfl rfl ?_;intro wz hx hT;have HX:=Lib.hid hx;have HTZ:=Lib.hid hT;clear hx hT))
 refine bodyPost_ret (results_cell_row rfl _ _ (w.heap.size + 1) 29 #[.bool s.ext, .int .u32 s.id, .bool s.rtr, .int .i64 s.dlc,(.slice A1 (s.data.length + 1) c1)] (0,0) _ rfl HX.out Tryd.underlying29 rfl (by kernel_rfl)) rfl ?_
 rw [HL.out]
 have hpp : P w.heap.size:=HF.out _ (Nat.le_refl _)
 have hpq : P (w.heap.size + 1):=HF.out _ (by omega)
 refine ⟨_,rfl, ?_,(HTG.out.setCell (.inl hpp) _).then_ (HTZ.out) (fun k hk => .inl (hk ▸ hpq))⟩
 exact R_tch (R_tch HO.out HBX.out (by decide) ((Tch.refl1 _ _).one 4 _)) HRX2.out (by decide) HTZ.out
set_option maxRecDepth 100000 in
theorem take_9_0_in (w0 w : World) (s : SS) (A : Option Addr) (c : Nat) (t : Int) (P : Nat → Prop) (hr : Kd.R (Kd.int .u8) 5 w w0.heap.size P (.slice A s.data.length c) s.data) (hB : Below w0.heap.size w0 w) (hF : ∀ k,w.heap.size ≤ k → P k) (ok : SOk s) (hfld : s.field = 9) (hm : ¬ Int.tmod t 8 = 0) (hm8 : ¬ s.left % 8 = 0) :
  Calls Tryd.prog 23 #[.agg #[.bool s.ext, .int .u32 s.id, .bool s.rtr, .int .i64 s.dlc, .slice A s.data.length c], .int .i64 s.field, .int .i64 t, .int .i64 0] w fun e w' => ∃ v' : Value,e = .returned (.agg #[.bool (takeS s 0).ext, .int .u32 (takeS s 0).id, .bool (takeS s 0).rtr, .int .i64 (takeS s 0).dlc,v']) ∧ Kd.R (Kd.int .u8) 5 w' w0.heap.size P v' (takeS s 0).data ∧ Tch w w' P:=by
 have HR:=Lib.hid hr
 have HB:=Lib.hid hB
 have HF:=Lib.hid hF
 have hmb : (Int.tmod t 8 == 0) = false:=beq_eq_false_iff_ne.mpr hm
 obtain ⟨m,hm0⟩ : ∃ m,s.data.length = m + 1:=⟨s.data.length - 1,by have h1:=ok.ne hfld hm8;have:=List.length_pos_iff.2 h1;omega⟩
 have hml : m < 1000:=by have:=ok.dl;omega
 obtain ⟨g,c1,ev,hgb,hgl, -, -⟩:=Kd.R_form hr (by omega)
 have HG0 : Hid (P g):=Lib.hid (hr.1 g (by rw [ev];rfl))
 rw [ev,hm0] at hr ⊢
 have HLT : Hid (g < w.heap.size):=Lib.hid hgl
 have HRR:=Lib.hid hr
 obtain ⟨hx,hfx⟩:=Kd.R_celln 0 hr (m : Int) (by omega) (by omega)
 rw [Int.toNat_natCast] at hx hfx
 have HL : Hid (takeS s 0 = { s with data:=s.data.set m (2 * rd s.data (m : Int) % 256) }):=Lib.hid (by
  have hd : dataS s 0 = s.data.set m (2 * rd s.data (m : Int) % 256):=by
   unfold dataS
   simp only []
   rw [if_neg hm8,hm0,show ((m + 1 : Nat) : Int) - 1 = (m : Int) by omega,show m + 1 - 1 = m by omega]
   congr 1
   omega
  unfold takeS
  rw [if_neg (by omega),if_neg (by omega),if_neg (by omega),if_neg (by omega),if_pos hfld,hd])
 have p0 : (0 ≤ (m : Int)) = True:=eq_true (by omega)
 have q0 : ((m : Int) < ((m + 1 : Nat) : Int)) = True:=eq_true (by omega)
 rw [hfld]
 clear hr hB hF ok hm hm0 ev hfld
 go_enter Tryd.func23,Tryd.ntmps23
 go_wp2_with (fail)
 go_region
 go_wp2_with (fail)
 have hsz : (w.setCell ⟨g,m,none⟩ (.int .u8 (2 * rd s.data (m : Int) % 256))).heap.size = w.heap.size:=by simp [World.setCell]
 refine bodyPost_ret (results_cell_row rfl _ _ (w.heap.size + 1) 29 #[.bool s.ext, .int .u32 s.id, .bool s.rtr, .int .i64 s.dlc,(.slice (some ⟨g,0,none⟩) (m + 1) c1)] (0,0) _ rfl (by have h:=blk_new ((w.setCell ⟨g,m,none⟩ (.int .u8 (2 * rd s.data (m : Int) % 256))).alloc (.cells #[.bool s.ext, .int .u32 s.id, .bool s.rtr, .int .i64 s.dlc,(.slice (some ⟨g,0,none⟩) (m + 1) c1)] 29)) (.cells #[.bool s.ext, .int .u32 s.id, .bool s.rtr, .int .i64 s.dlc,(.slice (some ⟨g,0,none⟩) (m + 1) c1)] 29);rw [World.size_alloc,hsz] at h;exact h) Tryd.underlying29 rfl (by kernel_rfl)) rfl ?_
 rw [HL.out]
 obtain ⟨h1,h2⟩:=Kd.R_putg HRR.out (m : Int) (2 * rd s.data (m : Int) % 256)
 rw [Int.toNat_natCast] at h1 h2
 exact ⟨_,rfl,Kd.R_drew (Kd.R_alloc (Kd.R_alloc h1 _) _),((((Tch.refl w P).setCell (p:=⟨g,m,none⟩) (.inl HG0.out) _).alloc _).alloc _).drew⟩
set_option maxRecDepth 100000 in
theorem take_9_1_in (w0 w : World) (s : SS) (A : Option Addr) (c : Nat) (t : Int) (P : Nat → Prop) (hr : Kd.R (Kd.int .u8) 5 w w0.heap.size P (.slice A s.data.length c) s.data) (hB : Below w0.heap.size w0 w) (hF : ∀ k,w.heap.size ≤ k → P k) (ok : SOk s) (hfld : s.field = 9) (hm : ¬ Int.tmod t 8 = 0) (hm8 : ¬ s.left % 8 = 0) :
  Calls Tryd.prog 23 #[.agg #[.bool s.ext, .int .u32 s.id, .bool s.rtr, .int .i64 s.dlc, .slice A s.data.length c], .int .i64 s.field, .int .i64 t, .int .i64 1] w fun e w' => ∃ v' : Value,e = .returned (.agg #[.bool (takeS s 1).ext, .int .u32 (takeS s 1).id, .bool (takeS s 1).rtr, .int .i64 (takeS s 1).dlc,v']) ∧ Kd.R (Kd.int .u8) 5 w' w0.heap.size P v' (takeS s 1).data ∧ Tch w w' P:=by
 have HR:=Lib.hid hr
 have HB:=Lib.hid hB
 have HF:=Lib.hid hF
 have hmb : (Int.tmod t 8 == 0) = false:=beq_eq_false_iff_ne.mpr hm
 obtain ⟨m,hm0⟩ : ∃ m,s.data.length = m + 1:=⟨s.data.length - 1,by have h1:=ok.ne hfld hm8;have:=List.length_pos_iff.2 h1;omega⟩
 have hml : m < 1000:=by have:=ok.dl;omega
 obtain ⟨g,c1,ev,hgb,hgl, -, -⟩:=Kd.R_form hr (by omega)
 have HG0 : Hid (P g):=Lib.hid (hr.1 g (by rw [ev];rfl))
 rw [ev,hm0] at hr ⊢
 have HLT : Hid (g < w.heap.size):=Lib.hid hgl
 have HRR:=Lib.hid hr
 obtain ⟨hx,hfx⟩:=Kd.R_celln 0 hr (m : Int) (by omega) (by omega)
 rw [Int.toNat_natCast] at hx hfx
 have HL : Hid (takeS s 1 = { s with data:=s.data.set m (2 * rd s.data (m : Int) % 256 + 1) }):=Lib.hid (by
  have hd : dataS s 1 = s.data.set m (2 * rd s.data (m : Int) % 256 + 1):=by
   unfold dataS
   simp only []
   rw [if_neg hm8,hm0,show ((m + 1 : Nat) : Int) - 1 = (m : Int) by omega,show m + 1 - 1 = m by omega]
   congr 1
   omega
  unfold takeS
  rw [if_neg (by omega),if_neg (by omega),if_neg (by omega),if_neg (by omega),if_pos hfld,hd])
 have p0 : (0 ≤ (m : Int)) = True:=eq_true (by omega)
 have q0 : ((m : Int) < ((m + 1 : Nat) : Int)) = True:=eq_true (by omega)
 rw [hfld]
 clear hr hB hF ok hm hm0 ev hfld
 go_enter Tryd.func23,Tryd.ntmps23
 go_wp2_with (fail)
 go_region
 go_wp2_with (fail)
 have hsz : (w.setCell ⟨g,m,none⟩ (.int .u8 (2 * rd s.data (m : Int) % 256 + 1))).heap.size = w.heap.size:=by simp [World.setCell]
 refine bodyPost_ret (results_cell_row rfl _ _ (w.heap.size + 1) 29 #[.bool s.ext, .int .u32 s.id, .bool s.rtr, .int .i64 s.dlc,(.slice (some ⟨g,0,none⟩) (m + 1) c1)] (0,0) _ rfl (by have h:=blk_new ((w.setCell ⟨g,m,none⟩ (.int .u8 (2 * rd s.data (m : Int) % 256 + 1))).alloc (.cells #[.bool s.ext, .int .u32 s.id, .bool s.rtr, .int .i64 s.dlc,(.slice (some ⟨g,0,none⟩) (m + 1) c1)] 29)) (.cells #[.bool s.ext, .int .u32 s.id, .bool s.rtr, .int .i64 s.dlc,(.slice (some ⟨g,0,none⟩) (m + 1) c1)] 29);rw [World.size_alloc,hsz] at h;exact h) Tryd.underlying29 rfl (by kernel_rfl)) rfl ?_
 rw [HL.out]
 obtain ⟨h1,h2⟩:=Kd.R_putg HRR.out (m : Int) (2 * rd s.data (m : Int) % 256 + 1)
 rw [Int.toNat_natCast] at h1 h2
 exact ⟨_,rfl,Kd.R_drew (Kd.R_alloc (Kd.R_alloc h1 _) _),((((Tch.refl w P).setCell (p:=⟨g,m,none⟩) (.inl HG0.out) _).alloc _).alloc _).drew⟩
theorem spec_l2take.at_ (w0 w : World) (s : SS) (A : Option Addr) (c : Nat) (t : Int) (P : Nat → Prop) (hr : Kd.R (Kd.int .u8) 5 w w0.heap.size P (.slice A s.data.length c) s.data) (hB : Below w0.heap.size w0 w) (hF : ∀ k,w.heap.size ≤ k → P k) (ok : SOk s) (b : Int) (hb : b = 0 ∨ b = 1) (ht0 : 0 ≤ t) (ht : s.field = 9 → (t % 8 = 0 ↔ s.left % 8 = 0)) :
  Calls Tryd.prog 23 #[.agg #[.bool s.ext, .int .u32 s.id, .bool s.rtr, .int .i64 s.dlc, .slice A s.data.length c], .int .i64 s.field, .int .i64 t, .int .i64 b] w fun e w' => ∃ v' : Value,e = .returned (.agg #[.bool (takeS s b).ext, .int .u32 (takeS s b).id, .bool (takeS s b).rtr, .int .i64 (takeS s b).dlc,v']) ∧ Kd.R (Kd.int .u8) 5 w' w0.heap.size P v' (takeS s b).data ∧ Tch w w' P:=by
 have hmod : Int.tmod t 8 = t % 8:=Int.tmod_eq_emod_of_nonneg ht0
 by_cases h2 : s.field = 2
 ·rcases hb with rfl | rfl;exact take_2_0 w0 w s A c t P hr hB hF ok h2;exact take_2_1 w0 w s A c t P hr hB hF ok h2
 by_cases h5 : s.field = 5
 ·rcases hb with rfl | rfl;exact take_5_0 w0 w s A c t P hr hB hF ok h5;exact take_5_1 w0 w s A c t P hr hB hF ok h5
 by_cases h3 : s.field = 3
 ·rcases hb with rfl | rfl;exact take_3_0 w0 w s A c t P hr hB hF ok h3;exact take_3_1 w0 w s A c t P hr hB hF ok h3
 by_cases h6 : s.field = 6
 ·rcases hb with rfl | rfl;exact take_6_0 w0 w s A c t P hr hB hF ok h6;exact take_6_1 w0 w s A c t P hr hB hF ok h6
 by_cases h4 : s.field = 4
 ·rcases hb with rfl | rfl;exact take_4_0 w0 w s A c t P hr hB hF ok h4;exact take_4_1 w0 w s A c t P hr hB hF ok h4
 by_cases h8 : s.field = 8
 ·rcases hb with rfl | rfl;exact take_8_0 w0 w s A c t P hr hB hF ok h8;exact take_8_1 w0 w s A c t P hr hB hF ok h8
 by_cases h9 : s.field = 9
 ·by_cases hm : t % 8 = 0
  ·rcases hb with rfl | rfl;exact take_9_0_app w0 w s A c t P hr hB hF ok h9 (by rw [hmod];exact hm) ((ht h9).1 hm);exact take_9_1_app w0 w s A c t P hr hB hF ok h9 (by rw [hmod];exact hm) ((ht h9).1 hm)
  ·rcases hb with rfl | rfl;exact take_9_0_in w0 w s A c t P hr hB hF ok h9 (by rw [hmod];exact hm) (fun h => hm ((ht h9).2 h));exact take_9_1_in w0 w s A c t P hr hB hF ok h9 (by rw [hmod];exact hm) (fun h => hm ((ht h9).2 h))
 exact take_other w0 w s A c t P hr hB hF ok b ⟨h2,h5,h3,h6,h4,h8,h9⟩
structure SpO (w w1 : World) (s : SS) (v0 : Value) (g : Nat) (T : SS) (v : Value) : Prop where
 box : w1.heap[w.heap.size]? = some (objS s v0)
 res : w1.heap[w.heap.size + 1]? = some (objS zeroS (.slice none 0 0))
 loc : w1.heap[g]? = some (objS T v)
 gg : w.heap.size + 1 < g
 below : Below w.heap.size w w1
 row : Kd.R (Kd.int .u8) 5 w1 w.heap.size (fun k => w.heap.size + 1 < k ∧ k ≠ g) v T.data
theorem SpO.lt {w w1 : World} {s T : SS} {v0 v : Value} {g : Nat} (h : SpO w w1 s v0 g T v) : w.heap.size + 1 < w1.heap.size:=(Array.getElem?_eq_some_iff.1 h.res).1
theorem SpO.glt {w w1 : World} {s T : SS} {v0 v : Value} {g : Nat} (h : SpO w w1 s v0 g T v) : g < w1.heap.size:=(Array.getElem?_eq_some_iff.1 h.loc).1
theorem SpO.step {w w1 w2 : World} {s T : SS} {v0 v : Value} {g : Nat} (h : SpO w w1 s v0 g T v) (hb : Below w1.heap.size w1 w2) : SpO w w2 s v0 g T v :=
 ⟨blk_below h.box hb,blk_below h.res hb,blk_below h.loc hb,h.gg,h.below.trans (hb.mono (by have:=h.lt;omega)),Kd.R_below h.row hb⟩
theorem SpO.put {w w1 : World} {s T T' : SS} {v0 v : Value} {g : Nat} (h : SpO w w1 s v0 g T v) {j : Nat} {u : Value} (ho : (w1.setCell ⟨g,j,none⟩ u).heap[g]? = some (objS T' v)) (hd : T'.data = T.data) : SpO w (w1.setCell ⟨g,j,none⟩ u) s v0 g T' v:=by
 have hgg:=h.gg
 exact ⟨(Below.heap_setCell _ _ _ _ (show w.heap.size ≠ g by omega)).trans h.box,(Below.heap_setCell _ _ _ _ (show w.heap.size + 1 ≠ g by omega)).trans h.res,ho,h.gg,h.below.setCell (by show w.heap.size ≤ g;omega) _,by rw [hd];exact Kd.R_step h.row (fun k hk _ => Below.heap_setCell _ _ _ k hk.2)⟩
theorem SpO.startT {w w1 w2 : World} {s T : SS} {v0 v : Value} (h : SbIn w w1 s v0) (hb : Below w1.heap.size w1 w2) (hr : Kd.R (Kd.int .u8) 5 w2 w1.heap.size (fun _ => True) v s.data) (hd : T.data = s.data) : SpO w (w2.alloc (objS T v)) s v0 w2.heap.size T v:=by
 have hlt:=h.lt
 have h2:=h.step hb
 have hsz:=hb.size
 refine ⟨blk_alloc h2.box _,blk_alloc h2.res _,blk_new _ _,by omega,h2.below.alloc (by omega) _, ?_⟩
 rw [hd]
 refine Kd.R_alloc (Kd.R_mono (Kd.R_lower (Kd.R_bound hr) (by omega)) (fun k hk => ?_)) _
 have h3:=hk.2.1
 have h4:=hk.2.2.1
 exact ⟨by omega,by omega⟩
theorem SpO.start {w w1 w2 : World} {s : SS} {v0 v : Value} (h : SbIn w w1 s v0) (hb : Below w1.heap.size w1 w2) (hr : Kd.R (Kd.int .u8) 5 w2 w1.heap.size (fun _ => True) v s.data) : SpO w (w2.alloc (objS s v)) s v0 w2.heap.size s v:=SpO.startT h hb hr rfl
theorem SpO.nil {w w1 : World} {s T : SS} {v0 v : Value} {g : Nat} (h : SpO w w1 s v0 g T v) : SpO w ((w1.alloc (.cells #[] 5)).setCell ⟨g,10,none⟩ (.slice (some ⟨w1.heap.size,0,none⟩) 0 0)) s v0 g { T with data := [] } (.slice (some ⟨w1.heap.size,0,none⟩) 0 0):=by
 have hlt:=h.lt
 have hglt:=h.glt
 have hgg:=h.gg
 have hb:=setS10 (blk_alloc h.loc (.cells #[] 5)) (.slice (some ⟨w1.heap.size,0,none⟩) 0 0)
 refine ⟨(Below.heap_setCell _ _ _ _ (show w.heap.size ≠ g by omega)).trans (blk_alloc h.box _),(Below.heap_setCell _ _ _ _ (show w.heap.size + 1 ≠ g by omega)).trans (blk_alloc h.res _),hb,hgg,(h.below.alloc (by omega) _).setCell (by show w.heap.size ≤ g;omega) _, ?_⟩
 exact Kd.R_step (R_empty (Kd.int .u8) w1 5 w.heap.size (by omega) _ ⟨by omega,by omega⟩) (fun k hk _ => Below.heap_setCell _ _ _ k hk.2)
theorem SpO.frame {w w1 : World} {s T : SS} {v0 v : Value} {g : Nat} (h : SpO w w1 s v0 g T v) : ∀ k,w1.heap.size ≤ k → (w.heap.size + 1 < k ∧ k ≠ g):=fun k hk => ⟨by have:=h.lt;omega,by have:=h.glt;omega⟩
set_option maxHeartbeats 1000000 in
set_option maxRecDepth 100000 in
theorem scan_quiet_0_0 (w : World) (s : SS) (A : Option Addr) (c : Nat) (hr : Kd.C (Kd.int .u8) w A s.data.length s.data) (hc : s.data.length ≤ c) (hG : LaidRows w) (hs : Sound s) (i0 : 0 ≤ s.id) (hby : ∀ x ∈ s.data,0 ≤ x ∧ x < 256) (h5 : s.run ≠ 5) (hv : verdictV s 0 = 0) (hlim : s.field = 14 → s.left ≠ 1) (hq : 10 < s.field) :
  Calls Tryd.prog 8 #[.agg #[.int .i64 s.field, .int .i64 s.left, .int .i64 s.run, .int .i64 s.level, .int .i64 s.crc, .int .i64 s.acc, .bool s.ext, .int .u32 s.id, .bool s.rtr, .int .i64 s.dlc,(.slice A s.data.length c)], .int .i64 0] w fun e w' => ∃ v : Value,e = .returned (.tuple #[.agg #[.int .i64 (stepS (takeS (crcT (runS s 0) 0) 0)).field, .int .i64 (stepS (takeS (crcT (runS s 0) 0) 0)).left, .int .i64 (stepS (takeS (crcT (runS s 0) 0) 0)).run, .int .i64 (stepS (takeS (crcT (runS s 0) 0) 0)).level, .int .i64 (stepS (takeS (crcT (runS s 0) 0) 0)).crc, .int .i64 (stepS (takeS (crcT (runS s 0) 0) 0)).acc, .bool (stepS (takeS (crcT (runS s 0) 0) 0)).ext, .int .u32 (stepS (takeS (crcT (runS s 0) 0) 0)).id, .bool (stepS (takeS (crcT (runS s 0) 0) 0)).rtr, .int .i64 (stepS (takeS (crcT (runS s 0) 0) 0)).dlc,v], .int .i64 0]) ∧ Kd.R (Kd.int .u8) 5 w' w.heap.size (fun _ => True) v (stepS (takeS (crcT (runS s 0) 0) 0)).data ∧ Below w.heap.size w w':=by
 have HR:=Lib.hid hr
 have HC:=Lib.hid hc
 have HG:=Lib.hid hG
 clear hr hc hG
 have HS:=Lib.hid hs
 have HCP : Hid (impl_copyFrame.f s.ext s.id s.rtr s.dlc s.data = some (s.ext,s.id,s.rtr,s.dlc,s.data)):=Lib.hid (copy_eq (by have:=hs.dl;omega))
 have HSB : Hid (Sound s):=Lib.hid hs
 have HVB : Hid (verdictV s 0 = 0):=Lib.hid hv
 have b5 : (s.run == 5) = false:=beq_eq_false_iff_ne.mpr h5
 have r0:=hs.r0
 have r1:=hs.r1
 have f0:=hs.f0
 have HE1 : Hid (crcT (runS s 0) 0 = ({ s with run:=0,level:=0 } : SS)):=Lib.hid (by rw [show runS s 0 = ({ s with run:=0,level:=0 } : SS) by unfold runS;rw [if_pos hq]];unfold crcT;rw [if_neg (show ¬ s.field ≤ 9 by omega)])
 have HOK : Hid (SOk ({ s with run:=0,level:=0 } : SS)):=Lib.hid (by have h:=hs.ok i0 hby;exact ⟨h.f0,h.f1,h.l0,h.l1,h.d0,h.d1,h.i0,h.i1,h.a0,h.a1,h.ne,h.by_,h.dl⟩)
 have HTK : Hid ((takeS ({ s with run:=0,level:=0 } : SS) 0).field = s.field ∧ (takeS ({ s with run:=0,level:=0 } : SS) 0).left = s.left):=Lib.hid (takeS_keep _ _)
 have HTD : Hid (0 ≤ (takeS ({ s with run:=0,level:=0 } : SS) 0).dlc ∧ (takeS ({ s with run:=0,level:=0 } : SS) 0).dlc ≤ 15):=Lib.hid (takeS_dlc (s := { s with run:=0,level:=0 }) hs.d0 hs.d1 _)
 have HF : Hid (1 ≤ s.field ∧ s.field ≤ 14 ∧ 1 ≤ s.left ∧ s.left ≤ 64 ∧ (s.field = 14 → s.left ≠ 1)):=Lib.hid ⟨hs.f0,hs.f1,hs.l0,by have:=(sizeF_le hs.f0 hs.f1 hs.d0).2;have:=hs.l1;omega,hlim⟩
 clear hs i0 hby h5 hv hlim
 rw [HE1.out]
 generalize hTT : takeS ({ s with run:=0,level:=0 } : SS) 0 = T at HTK HTD ⊢
 have HTT:=Lib.hid hTT
 clear hTT
 go_enter Tryd.func8,Tryd.ntmps8
 go_wp2_with (fail)
 (refine (sound_yes s HSB.out A c _ (Kd.C_alloc (Kd.C_alloc HR.out _) _) HC.out (HG.out.alloc _ |>.alloc _)).mono ?_;rintro e w1 ⟨rfl,hb1⟩;have HW1:=Lib.hid ((SbIn.start w s (.slice A s.data.length c)).step hb1);clear hb1)
 have hx6:=cS6 HW1.out.box
 have hx7:=cS7 HW1.out.box
 have hx8:=cS8 HW1.out.box
 have hx9:=cS9 HW1.out.box
 have hx10:=cS10 HW1.out.box
 go_wp2_with (fail)
 clear hx6 hx7 hx8 hx9 hx10
 (refine (impl_copyFrame.calls s.ext s.id s.rtr s.dlc A c s.data s.ext s.id s.rtr s.dlc s.data _ (Kd.C_below HR.out HW1.out.below) HC.out HCP.out).mono ?_;rintro e w2 ⟨v2,rfl,hr2,hb2⟩;obtain ⟨A2,c2,rfl⟩:=Kd.R_slice hr2;have HR2:=Lib.hid hr2;have HB2:=Lib.hid hb2;have HW2:=Lib.hid (HW1.out.step hb2);clear hr2 hb2)
 go_wp2_with ((with_reducible refine gate_store (t:=29) (p:=22) rfl ?_);refine store_box rfl rfl rfl (g:=w.heap.size) (j:=6) (cs := #[.int .i64 s.field, .int .i64 s.left, .int .i64 s.run, .int .i64 s.level, .int .i64 s.crc, .int .i64 s.acc, .bool s.ext, .int .u32 s.id, .bool s.rtr, .int .i64 s.dlc,(.slice A s.data.length c)]) (cs' := #[.int .i64 s.field, .int .i64 s.left, .int .i64 s.run, .int .i64 s.level, .int .i64 s.crc, .int .i64 s.acc, .bool s.ext, .int .u32 s.id, .bool s.rtr, .int .i64 s.dlc,(.slice A2 s.data.length c2)]) (T:=31) (u := .agg #[.bool s.ext, .int .u32 s.id, .bool s.rtr, .int .i64 s.dlc,(.slice A2 s.data.length c2)]) (seg := [.bool s.ext, .int .u32 s.id, .bool s.rtr, .int .i64 s.dlc,(.slice A2 s.data.length c2)]) rfl rfl HW2.out.box rfl (by kernel_rfl) rfl rfl rfl ?_;intro w3 hx hT;have HW3:=Lib.hid (SbO.ofCopy HW1.out HB2.out HR2.out hx hT);clear hx hT;obtain ⟨hc0,hc1,hc2,hc3,hc4,hc5,hc6,hc7,hc8,hc9,hc10⟩:=cSall HW3.out.box;obtain ⟨hf0,hf1,hf2,hf3,hf4,hf5,hf6,hf7,hf8,hf9,hf10⟩:=fSall HW3.out.box)
 (refine (verdict_run s 0 0 (by omega) HSB.out.l0 HVB.out (.slice A2 s.data.length c2) _).mono ?_;rintro e w4 ⟨rfl,hb4⟩;have HW4:=Lib.hid (HW3.out.step hb4);clear hb4;clear hc0 hc1 hc2 hc3 hc4 hc5 hc6 hc7 hc8 hc9 hc10 hf0 hf1 hf2 hf3 hf4 hf5 hf6 hf7 hf8 hf9 hf10;obtain ⟨hc0,hc1,hc2,hc3,hc4,hc5,hc6,hc7,hc8,hc9,hc10⟩:=cSall HW4.out.box;obtain ⟨hf0,hf1,hf2,hf3,hf4,hf5,hf6,hf7,hf8,hf9,hf10⟩:=fSall HW4.out.box)
 go_wp2_with (fail)
 have HW6 : Hid (SbO w _ ({ s with run:=0,level:=0 } : SS) _):=Lib.hid ((HW4.out.put (setS2 HW4.out.box (0)) rfl).put (setS3 (setS2 HW4.out.box (0)) (0)) rfl)
 (refine (impl_Scan_plain.calls w.heap.size _ ({ s with run:=0,level:=0 } : SS) 0 (by omega) (fun k => w.heap.size + 1 < k) w _ HW6.out.toIn (Nat.le_refl _) (by (try simp only []);omega) HOK.out).mono ?_;intro e w5 hE;obtain ⟨v5,h7⟩:=HW6.out.ofEnd hE;have hret:=hE.ret;subst hret;clear hE)
 rw [HTT.out] at h7
 obtain ⟨A5,c5,rfl,hC5,hc5⟩:=h7.open_
 have HW7:=Lib.hid h7
 clear h7 hC5 hc5 HTT HW6 HE1 HOK
 clear hc0 hc1 hc2 hc3 hc4 hc5 hc6 hc7 hc8 hc9 hc10 hf0 hf1 hf2 hf3 hf4 hf5 hf6 hf7 hf8 hf9 hf10
 obtain ⟨hc0,hc1,hc2,hc3,hc4,hc5,hc6,hc7,hc8,hc9,hc10⟩:=cSall HW7.out.box
 obtain ⟨hf0,hf1,hf2,hf3,hf4,hf5,hf6,hf7,hf8,hf9,hf10⟩:=fSall HW7.out.box
 have tl0 : 1 ≤ T.left:=by have:=HTK.out;have:=HF.out;omega
 have tl1 : T.left ≤ 64:=by have:=HTK.out;have:=HF.out;omega
 have HW8:=Lib.hid (HW7.out.put (setS1 HW7.out.box (T.left - 1)) rfl)
 by_cases hL : T.left - 1 = 0
 ·have bL : (T.left - 1 == 0) = true:=beq_iff_eq.mpr hL
  have HL0:=Lib.hid hL
  have HSTEP : Hid (stepS T = enterS T (afterF T)):=Lib.hid (by unfold stepS;rw [if_pos hL])
  have HAR : Hid (1 ≤ afterF T ∧ afterF T ≤ 14):=Lib.hid (by have h1:=HTK.out;have h2:=HF.out;exact afterF_range (by omega) (by omega))
  have HAI : Hid (impl_fieldAfter.f T.field T.ext T.id T.rtr T.dlc T.data = some (afterF T)):=Lib.hid (by have h1:=HTK.out;have h2:=HF.out;exact afterI (by omega) (by omega))
  have HSI : Hid (impl_fieldSize.f (afterF T) T.ext T.id T.rtr T.dlc T.data = some (sizeF { T with field:=afterF T })):=Lib.hid (sizeI (s := { T with field:=afterF T }) HAR.out.1 HAR.out.2 HTD.out.1 HTD.out.2)
  generalize afterF T = AF at HSTEP HAR HAI HSI
  clear hL
  go_wp2_with (fail)
  (refine (impl_fieldAfter.calls T.field T.ext T.id T.rtr T.dlc A5 c5 T.data AF _ (Kd.R_reads' HW8.out.row).2.2 (Kd.R_reads' HW8.out.row).2.1 HAI.out (HG.out.next HW8.out.below)).mono ?_;rintro e w9 ⟨rfl,hb9⟩;have HW9:=Lib.hid (HW8.out.step hb9);clear hb9;clear hc0 hc1 hc2 hc3 hc4 hc5 hc6 hc7 hc8 hc9 hc10 hf0 hf1 hf2 hf3 hf4 hf5 hf6 hf7 hf8 hf9 hf10;obtain ⟨hc0,hc1,hc2,hc3,hc4,hc5,hc6,hc7,hc8,hc9,hc10⟩:=cSall HW9.out.box;obtain ⟨hf0,hf1,hf2,hf3,hf4,hf5,hf6,hf7,hf8,hf9,hf10⟩:=fSall HW9.out.box)
  have HW10:=Lib.hid (HW9.out.put (setS0 HW9.out.box AF) rfl)
  go_wp2_with (fail)
  (refine (impl_fieldSize.calls AF T.ext T.id T.rtr T.dlc A5 c5 T.data _ _ (Kd.R_reads' HW10.out.row).2.2 (Kd.R_reads' HW10.out.row).2.1 HSI.out (HG.out.next HW10.out.below)).mono ?_;rintro e w11 ⟨rfl,hb11⟩;have HW11:=Lib.hid (HW10.out.step hb11);clear hb11;clear hc0 hc1 hc2 hc3 hc4 hc5 hc6 hc7 hc8 hc9 hc10 hf0 hf1 hf2 hf3 hf4 hf5 hf6 hf7 hf8 hf9 hf10;obtain ⟨hc0,hc1,hc2,hc3,hc4,hc5,hc6,hc7,hc8,hc9,hc10⟩:=cSall HW11.out.box;obtain ⟨hf0,hf1,hf2,hf3,hf4,hf5,hf6,hf7,hf8,hf9,hf10⟩:=fSall HW11.out.box)
  generalize hSZ : sizeF { T with field:=AF } = SZ at HSI ⊢
  have HSZ:=Lib.hid hSZ
  clear hSZ
  have HW12:=Lib.hid (HW11.out.put (setS1 HW11.out.box SZ) rfl)
  by_cases h9 : AF = 9
  ·have b9 : (AF == 9) = true:=beq_iff_eq.mpr h9
   have HH9:=Lib.hid h9
   clear h9
   have hns:=HW12.out.nil
   have hsz12 : (w11.setCell ⟨w.heap.size,1,none⟩ (.int .i64 SZ)).heap.size = w11.heap.size:=by simp [World.setCell]
   rw [hsz12] at hns
   have HW13:=Lib.hid hns
   clear hns hsz12
   obtain ⟨hg0,hg1,hg2,hg3,hg4,hg5,hg6,hg7,hg8,hg9,hg10⟩:=cSall (blk_alloc HW12.out.box (.cells #[] 5))
   have hgf:=fS (blk_alloc HW12.out.box (.cells #[] 5)) 10
   go_wp2_with ((with_reducible refine gate_store (t:=31) (p:=4) rfl ?_);refine store_box rfl rfl rfl (g:=w.heap.size + 1) (j:=0) (cs := #[.int .i64 0, .int .i64 0, .int .i64 0, .int .i64 0, .int .i64 0, .int .i64 0, .bool false, .int .u32 0, .bool false, .int .i64 0, .slice none 0 0]) (cs' := #[.int .i64 AF, .int .i64 SZ, .int .i64 T.run, .int .i64 T.level, .int .i64 T.crc, .int .i64 T.acc, .bool T.ext, .int .u32 T.id, .bool T.rtr, .int .i64 T.dlc,(.slice (some ⟨w11.heap.size,0,none⟩) 0 0)]) (T:=31) (u := .agg #[.int .i64 AF, .int .i64 SZ, .int .i64 T.run, .int .i64 T.level, .int .i64 T.crc, .int .i64 T.acc, .bool T.ext, .int .u32 T.id, .bool T.rtr, .int .i64 T.dlc,(.slice (some ⟨w11.heap.size,0,none⟩) 0 0)]) (seg := [.int .i64 AF, .int .i64 SZ, .int .i64 T.run, .int .i64 T.level, .int .i64 T.crc, .int .i64 T.acc, .bool T.ext, .int .u32 T.id, .bool T.rtr, .int .i64 T.dlc,(.slice (some ⟨w11.heap.size,0,none⟩) 0 0)]) rfl rfl HW13.out.res rfl (by kernel_rfl) rfl rfl rfl ?_;intro wz hx hT;have HX:=Lib.hid hx;have HTZ:=Lib.hid hT;have HBz:=Lib.hid (hT.below HW13.out.below HW13.out.below.size (fun k hk => by omega));clear hx hT)
   refine bodyPost_ret (results_ct rfl _ _ (w.heap.size + 1) 31 #[.int .i64 AF, .int .i64 SZ, .int .i64 T.run, .int .i64 T.level, .int .i64 T.crc, .int .i64 T.acc, .bool T.ext, .int .u32 T.id, .bool T.rtr, .int .i64 T.dlc,(.slice (some ⟨w11.heap.size,0,none⟩) 0 0)] (0,0) _ rfl HX.out Tryd.underlying31 rfl (by kernel_rfl)) rfl ?_
   rw [HSTEP.out,show enterS T AF = { T with field:=AF,left:=SZ,data := [] } by unfold enterS;rw [if_pos HH9.out,HSZ.out]]
   exact ⟨_,rfl,Kd.R_mono (HTZ.out.R HW13.out.row (fun k hk e => by omega)) (fun _ _ => trivial),HBz.out⟩
  ·have b9 : (AF == 9) = false:=beq_eq_false_iff_ne.mpr h9
   have HH9:=Lib.hid h9
   clear h9
   go_wp2_with ((with_reducible refine gate_store (t:=31) (p:=4) rfl ?_);refine store_box rfl rfl rfl (g:=w.heap.size + 1) (j:=0) (cs := #[.int .i64 0, .int .i64 0, .int .i64 0, .int .i64 0, .int .i64 0, .int .i64 0, .bool false, .int .u32 0, .bool false, .int .i64 0, .slice none 0 0]) (cs' := #[.int .i64 AF, .int .i64 SZ, .int .i64 T.run, .int .i64 T.level, .int .i64 T.crc, .int .i64 T.acc, .bool T.ext, .int .u32 T.id, .bool T.rtr, .int .i64 T.dlc,(.slice A5 T.data.length c5)]) (T:=31) (u := .agg #[.int .i64 AF, .int .i64 SZ, .int .i64 T.run, .int .i64 T.level, .int .i64 T.crc, .int .i64 T.acc, .bool T.ext, .int .u32 T.id, .bool T.rtr, .int .i64 T.dlc,(.slice A5 T.data.length c5)]) (seg := [.int .i64 AF, .int .i64 SZ, .int .i64 T.run, .int .i64 T.level, .int .i64 T.crc, .int .i64 T.acc, .bool T.ext, .int .u32 T.id, .bool T.rtr, .int .i64 T.dlc,(.slice A5 T.data.length c5)]) rfl rfl HW12.out.res rfl (by kernel_rfl) rfl rfl rfl ?_;intro wz hx hT;have HX:=Lib.hid hx;have HTZ:=Lib.hid hT;have HBz:=Lib.hid (hT.below HW12.out.below HW12.out.below.size (fun k hk => by omega));clear hx hT)
   refine bodyPost_ret (results_ct rfl _ _ (w.heap.size + 1) 31 #[.int .i64 AF, .int .i64 SZ, .int .i64 T.run, .int .i64 T.level, .int .i64 T.crc, .int .i64 T.acc, .bool T.ext, .int .u32 T.id, .bool T.rtr, .int .i64 T.dlc,(.slice A5 T.data.length c5)] (0,0) _ rfl HX.out Tryd.underlying31 rfl (by kernel_rfl)) rfl ?_
   rw [HSTEP.out,show enterS T AF = { T with field:=AF,left:=SZ } by unfold enterS;rw [if_neg HH9.out,HSZ.out]]
   exact ⟨_,rfl,Kd.R_mono (HTZ.out.R HW12.out.row (fun k hk e => by omega)) (fun _ _ => trivial),HBz.out⟩
 ·have bL : (T.left - 1 == 0) = false:=beq_eq_false_iff_ne.mpr hL
  have HL0:=Lib.hid hL
  have HSTEP : Hid (stepS T = { T with left:=T.left - 1 }):=Lib.hid (by unfold stepS;rw [if_neg hL])
  clear hL
  go_wp2_with ((with_reducible refine gate_store (t:=31) (p:=4) rfl ?_);refine store_box rfl rfl rfl (g:=w.heap.size + 1) (j:=0) (cs := #[.int .i64 0, .int .i64 0, .int .i64 0, .int .i64 0, .int .i64 0, .int .i64 0, .bool false, .int .u32 0, .bool false, .int .i64 0, .slice none 0 0]) (cs' := #[.int .i64 T.field, .int .i64 (T.left - 1), .int .i64 T.run, .int .i64 T.level, .int .i64 T.crc, .int .i64 T.acc, .bool T.ext, .int .u32 T.id, .bool T.rtr, .int .i64 T.dlc,(.slice A5 T.data.length c5)]) (T:=31) (u := .agg #[.int .i64 T.field, .int .i64 (T.left - 1), .int .i64 T.run, .int .i64 T.level, .int .i64 T.crc, .int .i64 T.acc, .bool T.ext, .int .u32 T.id, .bool T.rtr, .int .i64 T.dlc,(.slice A5 T.data.length c5)]) (seg := [.int .i64 T.field, .int .i64 (T.left - 1), .int .i64 T.run, .int .i64 T.level, .int .i64 T.crc, .int .i64 T.acc, .bool T.ext, .int .u32 T.id, .bool T.rtr, .int .i64 T.dlc,(.slice A5 T.data.length c5)]) rfl rfl HW8.out.res rfl (by kernel_rfl) rfl rfl rfl ?_;intro wz hx hT;have HX:=Lib.hid hx;have HTZ:=Lib.hid hT;have HBz:=Lib.hid (hT.below HW8.out.below HW8.out.below.size (fun k hk => by omega));clear hx hT)
  refine bodyPost_ret (results_ct rfl _ _ (w.heap.size + 1) 31 #[.int .i64 T.field, .int .i64 (T.left - 1), .int .i64 T.run, .int .i64 T.level, .int .i64 T.crc, .int .i64 T.acc, .bool T.ext, .int .u32 T.id, .bool T.rtr, .int .i64 T.dlc,(.slice A5 T.data.length c5)] (0,0) _ rfl HX.out Tryd.underlying31 rfl (by kernel_rfl)) rfl ?_
  rw [HSTEP.out]
  exact ⟨_,rfl,Kd.R_mono (HTZ.out.R HW8.out.row (fun k hk e => by omega)) (fun _ _ => trivial),HBz.out⟩
set_option maxHeartbeats 1000000 in
set_option maxRecDepth 100000 in
theorem scan_quiet_1_0 (w : World) (s : SS) (A : Option Addr) (c : Nat) (hr : Kd.C (Kd.int .u8) w A s.data.length s.data) (hc : s.data.length ≤ c) (hG : LaidRows w) (hs : Sound s) (i0 : 0 ≤ s.id) (hby : ∀ x ∈ s.data,0 ≤ x ∧ x < 256) (h5 : s.run ≠ 5) (hv : verdictV s 1 = 0) (hlim : s.field = 14 → s.left ≠ 1) (hq : 10 < s.field) :
  Calls Tryd.prog 8 #[.agg #[.int .i64 s.field, .int .i64 s.left, .int .i64 s.run, .int .i64 s.level, .int .i64 s.crc, .int .i64 s.acc, .bool s.ext, .int .u32 s.id, .bool s.rtr, .int .i64 s.dlc,(.slice A s.data.length c)], .int .i64 1] w fun e w' => ∃ v : Value,e = .returned (.tuple #[.agg #[.int .i64 (stepS (takeS (crcT (runS s 1) 1) 1)).field, .int .i64 (stepS (takeS (crcT (runS s 1) 1) 1)).left, .int .i64 (stepS (takeS (crcT (runS s 1) 1) 1)).run, .int .i64 (stepS (takeS (crcT (runS s 1) 1) 1)).level, .int .i64 (stepS (takeS (crcT (runS s 1) 1) 1)).crc, .int .i64 (stepS (takeS (crcT (runS s 1) 1) 1)).acc, .bool (stepS (takeS (crcT (runS s 1) 1) 1)).ext, .int .u32 (stepS (takeS (crcT (runS s 1) 1) 1)).id, .bool (stepS (takeS (crcT (runS s 1) 1) 1)).rtr, .int .i64 (stepS (takeS (crcT (runS s 1) 1) 1)).dlc,v], .int .i64 0]) ∧ Kd.R (Kd.int .u8) 5 w' w.heap.size (fun _ => True) v (stepS (takeS (crcT (runS s 1) 1) 1)).data ∧ Below w.heap.size w w':=by
 have HR:=Lib.hid hr
 have HC:=Lib.hid hc
 have HG:=Lib.hid hG
 clear hr hc hG
 have HS:=Lib.hid hs
 have HCP : Hid (impl_copyFrame.f s.ext s.id s.rtr s.dlc s.data = some (s.ext,s.id,s.rtr,s.dlc,s.data)):=Lib.hid (copy_eq (by have:=hs.dl;omega))
 have HSB : Hid (Sound s):=Lib.hid hs
 have HVB : Hid (verdictV s 1 = 0):=Lib.hid hv
 have b5 : (s.run == 5) = false:=beq_eq_false_iff_ne.mpr h5
 have r0:=hs.r0
 have r1:=hs.r1
 have f0:=hs.f0
 have HE1 : Hid (crcT (runS s 1) 1 = ({ s with run:=0,level:=0 } : SS)):=Lib.hid (by rw [show runS s 1 = ({ s with run:=0,level:=0 } : SS) by unfold runS;rw [if_pos hq]];unfold crcT;rw [if_neg (show ¬ s.field ≤ 9 by omega)])
 have HOK : Hid (SOk ({ s with run:=0,level:=0 } : SS)):=Lib.hid (by have h:=hs.ok i0 hby;exact ⟨h.f0,h.f1,h.l0,h.l1,h.d0,h.d1,h.i0,h.i1,h.a0,h.a1,h.ne,h.by_,h.dl⟩)
 have HTK : Hid ((takeS ({ s with run:=0,level:=0 } : SS) 1).field = s.field ∧ (takeS ({ s with run:=0,level:=0 } : SS) 1).left = s.left):=Lib.hid (takeS_keep _ _)
 have HTD : Hid (0 ≤ (takeS ({ s with run:=0,level:=0 } : SS) 1).dlc ∧ (takeS ({ s with run:=0,level:=0 } : SS) 1).dlc ≤ 15):=Lib.hid (takeS_dlc (s := { s with run:=0,level:=0 }) hs.d0 hs.d1 _)
 have HF : Hid (1 ≤ s.field ∧ s.field ≤ 14 ∧ 1 ≤ s.left ∧ s.left ≤ 64 ∧ (s.field = 14 → s.left ≠ 1)):=Lib.hid ⟨hs.f0,hs.f1,hs.l0,by have:=(sizeF_le hs.f0 hs.f1 hs.d0).2;have:=hs.l1;omega,hlim⟩
 clear hs i0 hby h5 hv hlim
 rw [HE1.out]
 generalize hTT : takeS ({ s with run:=0,level:=0 } : SS) 1 = T at HTK HTD ⊢
 have HTT:=Lib.hid hTT
 clear hTT
 go_enter Tryd.func8,Tryd.ntmps8
 go_wp2_with (fail)
 (refine (sound_yes s HSB.out A c _ (Kd.C_alloc (Kd.C_alloc HR.out _) _) HC.out (HG.out.alloc _ |>.alloc _)).mono ?_;rintro e w1 ⟨rfl,hb1⟩;have HW1:=Lib.hid ((SbIn.start w s (.slice A s.data.length c)).step hb1);clear hb1)
 have hx6:=cS6 HW1.out.box
 have hx7:=cS7 HW1.out.box
 have hx8:=cS8 HW1.out.box
 have hx9:=cS9 HW1.out.box
 have hx10:=cS10 HW1.out.box
 go_wp2_with (fail)
 clear hx6 hx7 hx8 hx9 hx10
 (refine (impl_copyFrame.calls s.ext s.id s.rtr s.dlc A c s.data s.ext s.id s.rtr s.dlc s.data _ (Kd.C_below HR.out HW1.out.below) HC.out HCP.out).mono ?_;rintro e w2 ⟨v2,rfl,hr2,hb2⟩;obtain ⟨A2,c2,rfl⟩:=Kd.R_slice hr2;have HR2:=Lib.hid hr2;have HB2:=Lib.hid hb2;have HW2:=Lib.hid (HW1.out.step hb2);clear hr2 hb2)
 go_wp2_with ((with_reducible refine gate_store (t:=29) (p:=22) rfl ?_);refine store_box rfl rfl rfl (g:=w.heap.size) (j:=6) (cs := #[.int .i64 s.field, .int .i64 s.left, .int .i64 s.run, .int .i64 s.level, .int .i64 s.crc, .int .i64 s.acc, .bool s.ext, .int .u32 s.id, .bool s.rtr, .int .i64 s.dlc,(.slice A s.data.length c)]) (cs' := #[.int .i64 s.field, .int .i64 s.left, .int .i64 s.run, .int .i64 s.level, .int .i64 s.crc, .int .i64 s.acc, .bool s.ext, .int .u32 s.id, .bool s.rtr, .int .i64 s.dlc,(.slice A2 s.data.length c2)]) (T:=31) (u := .agg #[.bool s.ext, .int .u32 s.id, .bool s.rtr, .int .i64 s.dlc,(.slice A2 s.data.length c2)]) (seg := [.bool s.ext, .int .u32 s.id, .bool s.rtr, .int .i64 s.dlc,(.slice A2 s.data.length c2)]) rfl rfl HW2.out.box rfl (by kernel_rfl) rfl rfl rfl ?_;intro w3 hx hT;have HW3:=Lib.hid (SbO.ofCopy HW1.out HB2.out HR2.out hx hT);clear hx hT;obtain ⟨hc0,hc1,hc2,hc3,hc4,hc5,hc6,hc7,hc8,hc9,hc10⟩:=cSall HW3.out.box;obtain ⟨hf0,hf1,hf2,hf3,hf4,hf5,hf6,hf7,hf8,hf9,hf10⟩:=fSall HW3.out.box)
 (refine (verdict_run s 1 0 (by omega) HSB.out.l0 HVB.out (.slice A2 s.data.length c2) _).mono ?_;rintro e w4 ⟨rfl,hb4⟩;have HW4:=Lib.hid (HW3.out.step hb4);clear hb4;clear hc0 hc1 hc2 hc3 hc4 hc5 hc6 hc7 hc8 hc9 hc10 hf0 hf1 hf2 hf3 hf4 hf5 hf6 hf7 hf8 hf9 hf10;obtain ⟨hc0,hc1,hc2,hc3,hc4,hc5,hc6,hc7,hc8,hc9,hc10⟩:=cSall HW4.out.box;obtain ⟨hf0,hf1,hf2,hf3,hf4,hf5,hf6,hf7,hf8,hf9,hf10⟩:=fSall HW4.out.box)
 go_wp2_with (fail)
 have HW6 : Hid (SbO w _ ({ s with run:=0,level:=0 } : SS) _):=Lib.hid ((HW4.out.put (setS2 HW4.out.box (0)) rfl).put (setS3 (setS2 HW4.out.box (0)) (0)) rfl)
 (refine (impl_Scan_plain.calls w.heap.size _ ({ s with run:=0,level:=0 } : SS) 1 (by omega) (fun k => w.heap.size + 1 < k) w _ HW6.out.toIn (Nat.le_refl _) (by (try simp only []);omega) HOK.out).mono ?_;intro e w5 hE;obtain ⟨v5,h7⟩:=HW6.out.ofEnd hE;have hret:=hE.ret;subst hret;clear hE)
 rw [HTT.out] at h7
 obtain ⟨A5,c5,rfl,hC5,hc5⟩:=h7.open_
 have HW7:=Lib.hid h7
 clear h7 hC5 hc5 HTT HW6 HE1 HOK
 clear hc0 hc1 hc2 hc3 hc4 hc5 hc6 hc7 hc8 hc9 hc10 hf0 hf1 hf2 hf3 hf4 hf5 hf6 hf7 hf8 hf9 hf10
 obtain ⟨hc0,hc1,hc2,hc3,hc4,hc5,hc6,hc7,hc8,hc9,hc10⟩:=cSall HW7.out.box
 obtain ⟨hf0,hf1,hf2,hf3,hf4,hf5,hf6,hf7,hf8,hf9,hf10⟩:=fSall HW7.out.box
 have tl0 : 1 ≤ T.left:=by have:=HTK.out;have:=HF.out;omega
 have tl1 : T.left ≤ 64:=by have:=HTK.out;have:=HF.out;omega
 have HW8:=Lib.hid (HW7.out.put (setS1 HW7.out.box (T.left - 1)) rfl)
 by_cases hL : T.left - 1 = 0
 ·have bL : (T.left - 1 == 0) = true:=beq_iff_eq.mpr hL
  have HL0:=Lib.hid hL
  have HSTEP : Hid (stepS T = enterS T (afterF T)):=Lib.hid (by unfold stepS;rw [if_pos hL])
  have HAR : Hid (1 ≤ afterF T ∧ afterF T ≤ 14):=Lib.hid (by have h1:=HTK.out;have h2:=HF.out;exact afterF_range (by omega) (by omega))
  have HAI : Hid (impl_fieldAfter.f T.field T.ext T.id T.rtr T.dlc T.data = some (afterF T)):=Lib.hid (by have h1:=HTK.out;have h2:=HF.out;exact afterI (by omega) (by omega))
  have HSI : Hid (impl_fieldSize.f (afterF T) T.ext T.id T.rtr T.dlc T.data = some (sizeF { T with field:=afterF T })):=Lib.hid (sizeI (s := { T with field:=afterF T }) HAR.out.1 HAR.out.2 HTD.out.1 HTD.out.2)
  generalize afterF T = AF at HSTEP HAR HAI HSI
  clear hL
  go_wp2_with (fail)
  (refine (impl_fieldAfter.calls T.field T.ext T.id T.rtr T.dlc A5 c5 T.data AF _ (Kd.R_reads' HW8.out.row).2.2 (Kd.R_reads' HW8.out.row).2.1 HAI.out (HG.out.next HW8.out.below)).mono ?_;rintro e w9 ⟨rfl,hb9⟩;have HW9:=Lib.hid (HW8.out.step hb9);clear hb9;clear hc0 hc1 hc2 hc3 hc4 hc5 hc6 hc7 hc8 hc9 hc10 hf0 hf1 hf2 hf3 hf4 hf5 hf6 hf7 hf8 hf9 hf10;obtain ⟨hc0,hc1,hc2,hc3,hc4,hc5,hc6,hc7,hc8,hc9,hc10⟩:=cSall HW9.out.box;obtain ⟨hf0,hf1,hf2,hf3,hf4,hf5,hf6,hf7,hf8,hf9,hf10⟩:=fSall HW9.out.box)
  have HW10:=Lib.hid (HW9.out.put (setS0 HW9.out.box AF) rfl)
  go_wp2_with (fail)
  (refine (impl_fieldSize.calls AF T.ext T.id T.rtr T.dlc A5 c5 T.data _ _ (Kd.R_reads' HW10.out.row).2.2 (Kd.R_reads' HW10.out.row).2.1 HSI.out (HG.out.next HW10.out.below)).mono ?_;rintro e w11 ⟨rfl,hb11⟩;have HW11:=Lib.hid (HW10.out.step hb11);clear hb11;clear hc0 hc1 hc2 hc3 hc4 hc5 hc6 hc7 hc8 hc9 hc10 hf0 hf1 hf2 hf3 hf4 hf5 hf6 hf7 hf8 hf9 hf10;obtain ⟨hc0,hc1,hc2,hc3,hc4,hc5,hc6,hc7,hc8,hc9,hc10⟩:=cSall HW11.out.box;obtain ⟨hf0,hf1,hf2,hf3,hf4,hf5,hf6,hf7,hf8,hf9,hf10⟩:=fSall HW11.out.box)
  generalize hSZ : sizeF { T with field:=AF } = SZ at HSI ⊢
  have HSZ:=Lib.hid hSZ
  clear hSZ
  have HW12:=Lib.hid (HW11.out.put (setS1 HW11.out.box SZ) rfl)
  by_cases h9 : AF = 9
  ·have b9 : (AF == 9) = true:=beq_iff_eq.mpr h9
   have HH9:=Lib.hid h9
   clear h9
   have hns:=HW12.out.nil
   have hsz12 : (w11.setCell ⟨w.heap.size,1,none⟩ (.int .i64 SZ)).heap.size = w11.heap.size:=by simp [World.setCell]
   rw [hsz12] at hns
   have HW13:=Lib.hid hns
   clear hns hsz12
   obtain ⟨hg0,hg1,hg2,hg3,hg4,hg5,hg6,hg7,hg8,hg9,hg10⟩:=cSall (blk_alloc HW12.out.box (.cells #[] 5))
   have hgf:=fS (blk_alloc HW12.out.box (.cells #[] 5)) 10
   go_wp2_with ((with_reducible refine gate_store (t:=31) (p:=4) rfl ?_);refine store_box rfl rfl rfl (g:=w.heap.size + 1) (j:=0) (cs := #[.int .i64 0, .int .i64 0, .int .i64 0, .int .i64 0, .int .i64 0, .int .i64 0, .bool false, .int .u32 0, .bool false, .int .i64 0, .slice none 0 0]) (cs' := #[.int .i64 AF, .int .i64 SZ, .int .i64 T.run, .int .i64 T.level, .int .i64 T.crc, .int .i64 T.acc, .bool T.ext, .int .u32 T.id, .bool T.rtr, .int .i64 T.dlc,(.slice (some ⟨w11.heap.size,0,none⟩) 0 0)]) (T:=31) (u := .agg #[.int .i64 AF, .int .i64 SZ, .int .i64 T.run, .int .i64 T.level, .int .i64 T.crc, .int .i64 T.acc, .bool T.ext, .int .u32 T.id, .bool T.rtr, .int .i64 T.dlc,(.slice (some ⟨w11.heap.size,0,none⟩) 0 0)]) (seg := [.int .i64 AF, .int .i64 SZ, .int .i64 T.run, .int .i64 T.level, .int .i64 T.crc, .int .i64 T.acc, .bool T.ext, .int .u32 T.id, .bool T.rtr, .int .i64 T.dlc,(.slice (some ⟨w11.heap.size,0,none⟩) 0 0)]) rfl rfl HW13.out.res rfl (by kernel_rfl) rfl rfl rfl ?_;intro wz hx hT;have HX:=Lib.hid hx;have HTZ:=Lib.hid hT;have HBz:=Lib.hid (hT.below HW13.out.below HW13.out.below.size (fun k hk => by omega));clear hx hT)
   refine bodyPost_ret (results_ct rfl _ _ (w.heap.size + 1) 31 #[.int .i64 AF, .int .i64 SZ, .int .i64 T.run, .int .i64 T.level, .int .i64 T.crc, .int .i64 T.acc, .bool T.ext, .int .u32 T.id, .bool T.rtr, .int .i64 T.dlc,(.slice (some ⟨w11.heap.size,0,none⟩) 0 0)] (0,0) _ rfl HX.out Tryd.underlying31 rfl (by kernel_rfl)) rfl ?_
   rw [HSTEP.out,show enterS T AF = { T with field:=AF,left:=SZ,data := [] } by unfold enterS;rw [if_pos HH9.out,HSZ.out]]
   exact ⟨_,rfl,Kd.R_mono (HTZ.out.R HW13.out.row (fun k hk e => by omega)) (fun _ _ => trivial),HBz.out⟩
  ·have b9 : (AF == 9) = false:=beq_eq_false_iff_ne.mpr h9
   have HH9:=Lib.hid h9
   clear h9
   go_wp2_with ((with_reducible refine gate_store (t:=31) (p:=4) rfl ?_);refine store_box rfl rfl rfl (g:=w.heap.size + 1) (j:=0) (cs := #[.int .i64 0, .int .i64 0, .int .i64 0, .int .i64 0, .int .i64 0, .int .i64 0, .bool false, .int .u32 0, .bool false, .int .i64 0, .slice none 0 0]) (cs' := #[.int .i64 AF, .int .i64 SZ, .int .i64 T.run, .int .i64 T.level, .int .i64 T.crc, .int .i64 T.acc, .bool T.ext, .int .u32 T.id, .bool T.rtr, .int .i64 T.dlc,(.slice A5 T.data.length c5)]) (T:=31) (u := .agg #[.int .i64 AF, .int .i64 SZ, .int .i64 T.run, .int .i64 T.level, .int .i64 T.crc, .int .i64 T.acc, .bool T.ext, .int .u32 T.id, .bool T.rtr, .int .i64 T.dlc,(.slice A5 T.data.length c5)]) (seg := [.int .i64 AF, .int .i64 SZ, .int .i64 T.run, .int .i64 T.level, .int .i64 T.crc, .int .i64 T.acc, .bool T.ext, .int .u32 T.id, .bool T.rtr, .int .i64 T.dlc,(.slice A5 T.data.length c5)]) rfl rfl HW12.out.res rfl (by kernel_rfl) rfl rfl rfl ?_;intro wz hx hT;have HX:=Lib.hid hx;have HTZ:=Lib.hid hT;have HBz:=Lib.hid (hT.below HW12.out.below HW12.out.below.size (fun k hk => by omega));clear hx hT)
   refine bodyPost_ret (results_ct rfl _ _ (w.heap.size + 1) 31 #[.int .i64 AF, .int .i64 SZ, .int .i64 T.run, .int .i64 T.level, .int .i64 T.crc, .int .i64 T.acc, .bool T.ext, .int .u32 T.id, .bool T.rtr, .int .i64 T.dlc,(.slice A5 T.data.length c5)] (0,0) _ rfl HX.out Tryd.underlying31 rfl (by kernel_rfl)) rfl ?_
   rw [HSTEP.out,show enterS T AF = { T with field:=AF,left:=SZ } by unfold enterS;rw [if_neg HH9.out,HSZ.out]]
   exact ⟨_,rfl,Kd.R_mono (HTZ.out.R HW12.out.row (fun k hk e => by omega)) (fun _ _ => trivial),HBz.out⟩
 ·have bL : (T.left - 1 == 0) = false:=beq_eq_false_iff_ne.mpr hL
  have HL0:=Lib.hid hL
  have HSTEP : Hid (stepS T = { T with left:=T.left - 1 }):=Lib.hid (by unfold stepS;rw [if_neg hL])
  clear hL
  go_wp2_with ((with_reducible refine gate_store (t:=31) (p:=4) rfl ?_);refine store_box rfl rfl rfl (g:=w.heap.size + 1) (j:=0) (cs := #[.int .i64 0, .int .i64 0, .int .i64 0, .int .i64 0, .int .i64 0, .int .i64 0, .bool false, .int .u32 0, .bool false, .int .i64 0, .slice none 0 0]) (cs' := #[.int .i64 T.field, .int .i64 (T.left - 1), .int .i64 T.run, .int .i64 T.level, .int .i64 T.crc, .int .i64 T.acc, .bool T.ext, .int .u32 T.id, .bool T.rtr, .int .i64 T.dlc,(.slice A5 T.data.length c5)]) (T:=31) (u := .agg #[.int .i64 T.field, .int .i64 (T.left - 1), .int .i64 T.run, .int .i64 T.level, .int .i64 T.crc, .int .i64 T.acc, .bool T.ext, .int .u32 T.id, .bool T.rtr, .int .i64 T.dlc,(.slice A5 T.data.length c5)]) (seg := [.int .i64 T.field, .int .i64 (T.left - 1), .int .i64 T.run, .int .i64 T.level, .int .i64 T.crc, .int .i64 T.acc, .bool T.ext, .int .u32 T.id, .bool T.rtr, .int .i64 T.dlc,(.slice A5 T.data.length c5)]) rfl rfl HW8.out.res rfl (by kernel_rfl) rfl rfl rfl ?_;intro wz hx hT;have HX:=Lib.hid hx;have HTZ:=Lib.hid hT;have HBz:=Lib.hid (hT.below HW8.out.below HW8.out.below.size (fun k hk => by omega));clear hx hT)
  refine bodyPost_ret (results_ct rfl _ _ (w.heap.size + 1) 31 #[.int .i64 T.field, .int .i64 (T.left - 1), .int .i64 T.run, .int .i64 T.level, .int .i64 T.crc, .int .i64 T.acc, .bool T.ext, .int .u32 T.id, .bool T.rtr, .int .i64 T.dlc,(.slice A5 T.data.length c5)] (0,0) _ rfl HX.out Tryd.underlying31 rfl (by kernel_rfl)) rfl ?_
  rw [HSTEP.out]
  exact ⟨_,rfl,Kd.R_mono (HTZ.out.R HW8.out.row (fun k hk e => by omega)) (fun _ _ => trivial),HBz.out⟩
set_option maxHeartbeats 1000000 in
set_option maxRecDepth 100000 in
theorem scan_same_crc_0_0 (w : World) (s : SS) (A : Option Addr) (c : Nat) (hr : Kd.C (Kd.int .u8) w A s.data.length s.data) (hc : s.data.length ≤ c) (hG : LaidRows w) (hs : Sound s) (i0 : 0 ≤ s.id) (hby : ∀ x ∈ s.data,0 ≤ x ∧ x < 256) (h5 : s.run ≠ 5) (hv : verdictV s 0 = 0) (hlim : s.field = 14 → s.left ≠ 1) (hq : s.field ≤ 10) (hr0 : 0 < s.run) (hlv : s.level = 0) (hcr : s.field ≤ 9) :
  Calls Tryd.prog 8 #[.agg #[.int .i64 s.field, .int .i64 s.left, .int .i64 s.run, .int .i64 s.level, .int .i64 s.crc, .int .i64 s.acc, .bool s.ext, .int .u32 s.id, .bool s.rtr, .int .i64 s.dlc,(.slice A s.data.length c)], .int .i64 0] w fun e w' => ∃ v : Value,e = .returned (.tuple #[.agg #[.int .i64 (stepS (takeS (crcT (runS s 0) 0) 0)).field, .int .i64 (stepS (takeS (crcT (runS s 0) 0) 0)).left, .int .i64 (stepS (takeS (crcT (runS s 0) 0) 0)).run, .int .i64 (stepS (takeS (crcT (runS s 0) 0) 0)).level, .int .i64 (stepS (takeS (crcT (runS s 0) 0) 0)).crc, .int .i64 (stepS (takeS (crcT (runS s 0) 0) 0)).acc, .bool (stepS (takeS (crcT (runS s 0) 0) 0)).ext, .int .u32 (stepS (takeS (crcT (runS s 0) 0) 0)).id, .bool (stepS (takeS (crcT (runS s 0) 0) 0)).rtr, .int .i64 (stepS (takeS (crcT (runS s 0) 0) 0)).dlc,v], .int .i64 0]) ∧ Kd.R (Kd.int .u8) 5 w' w.heap.size (fun _ => True) v (stepS (takeS (crcT (runS s 0) 0) 0)).data ∧ Below w.heap.size w w':=by
 have HR:=Lib.hid hr
 have HC:=Lib.hid hc
 have HG:=Lib.hid hG
 clear hr hc hG
 have HS:=Lib.hid hs
 have HCP : Hid (impl_copyFrame.f s.ext s.id s.rtr s.dlc s.data = some (s.ext,s.id,s.rtr,s.dlc,s.data)):=Lib.hid (copy_eq (by have:=hs.dl;omega))
 have HSB : Hid (Sound s):=Lib.hid hs
 have HVB : Hid (verdictV s 0 = 0):=Lib.hid hv
 have b5 : (s.run == 5) = false:=beq_eq_false_iff_ne.mpr h5
 have r0:=hs.r0
 have r1:=hs.r1
 have f0:=hs.f0
 have bl : (s.level == 0) = true:=beq_iff_eq.mpr hlv
 have HE1 : Hid (crcT (runS s 0) 0 = ({ s with run:=s.run + 1,crc:=crcI s.crc 0 } : SS)):=Lib.hid (by rw [show runS s 0 = ({ s with run:=s.run + 1 } : SS) by unfold runS;rw [if_neg (by omega),if_pos ⟨hr0,hlv⟩]];unfold crcT;rw [if_pos (show s.field ≤ 9 from hcr)])
 have HOK : Hid (SOk ({ s with run:=s.run + 1,crc:=crcI s.crc 0 } : SS)):=Lib.hid (by have h:=hs.ok i0 hby;exact ⟨h.f0,h.f1,h.l0,h.l1,h.d0,h.d1,h.i0,h.i1,h.a0,h.a1,h.ne,h.by_,h.dl⟩)
 have HTK : Hid ((takeS ({ s with run:=s.run + 1,crc:=crcI s.crc 0 } : SS) 0).field = s.field ∧ (takeS ({ s with run:=s.run + 1,crc:=crcI s.crc 0 } : SS) 0).left = s.left):=Lib.hid (takeS_keep _ _)
 have HTD : Hid (0 ≤ (takeS ({ s with run:=s.run + 1,crc:=crcI s.crc 0 } : SS) 0).dlc ∧ (takeS ({ s with run:=s.run + 1,crc:=crcI s.crc 0 } : SS) 0).dlc ≤ 15):=Lib.hid (takeS_dlc (s := { s with run:=s.run + 1,crc:=crcI s.crc 0 }) hs.d0 hs.d1 _)
 have HF : Hid (1 ≤ s.field ∧ s.field ≤ 14 ∧ 1 ≤ s.left ∧ s.left ≤ 64 ∧ (s.field = 14 → s.left ≠ 1)):=Lib.hid ⟨hs.f0,hs.f1,hs.l0,by have:=(sizeF_le hs.f0 hs.f1 hs.d0).2;have:=hs.l1;omega,hlim⟩
 have h4 : s.run ≤ 4:=by omega
 clear hs i0 hby h5 hv hlim hlv
 rw [HE1.out]
 generalize hTT : takeS ({ s with run:=s.run + 1,crc:=crcI s.crc 0 } : SS) 0 = T at HTK HTD ⊢
 have HTT:=Lib.hid hTT
 clear hTT
 go_enter Tryd.func8,Tryd.ntmps8
 go_wp2_with (fail)
 (refine (sound_yes s HSB.out A c _ (Kd.C_alloc (Kd.C_alloc HR.out _) _) HC.out (HG.out.alloc _ |>.alloc _)).mono ?_;rintro e w1 ⟨rfl,hb1⟩;have HW1:=Lib.hid ((SbIn.start w s (.slice A s.data.length c)).step hb1);clear hb1)
 have hx6:=cS6 HW1.out.box
 have hx7:=cS7 HW1.out.box
 have hx8:=cS8 HW1.out.box
 have hx9:=cS9 HW1.out.box
 have hx10:=cS10 HW1.out.box
 go_wp2_with (fail)
 clear hx6 hx7 hx8 hx9 hx10
 (refine (impl_copyFrame.calls s.ext s.id s.rtr s.dlc A c s.data s.ext s.id s.rtr s.dlc s.data _ (Kd.C_below HR.out HW1.out.below) HC.out HCP.out).mono ?_;rintro e w2 ⟨v2,rfl,hr2,hb2⟩;obtain ⟨A2,c2,rfl⟩:=Kd.R_slice hr2;have HR2:=Lib.hid hr2;have HB2:=Lib.hid hb2;have HW2:=Lib.hid (HW1.out.step hb2);clear hr2 hb2)
 go_wp2_with ((with_reducible refine gate_store (t:=29) (p:=22) rfl ?_);refine store_box rfl rfl rfl (g:=w.heap.size) (j:=6) (cs := #[.int .i64 s.field, .int .i64 s.left, .int .i64 s.run, .int .i64 s.level, .int .i64 s.crc, .int .i64 s.acc, .bool s.ext, .int .u32 s.id, .bool s.rtr, .int .i64 s.dlc,(.slice A s.data.length c)]) (cs' := #[.int .i64 s.field, .int .i64 s.left, .int .i64 s.run, .int .i64 s.level, .int .i64 s.crc, .int .i64 s.acc, .bool s.ext, .int .u32 s.id, .bool s.rtr, .int .i64 s.dlc,(.slice A2 s.data.length c2)]) (T:=31) (u := .agg #[.bool s.ext, .int .u32 s.id, .bool s.rtr, .int .i64 s.dlc,(.slice A2 s.data.length c2)]) (seg := [.bool s.ext, .int .u32 s.id, .bool s.rtr, .int .i64 s.dlc,(.slice A2 s.data.length c2)]) rfl rfl HW2.out.box rfl (by kernel_rfl) rfl rfl rfl ?_;intro w3 hx hT;have HW3:=Lib.hid (SbO.ofCopy HW1.out HB2.out HR2.out hx hT);clear hx hT;obtain ⟨hc0,hc1,hc2,hc3,hc4,hc5,hc6,hc7,hc8,hc9,hc10⟩:=cSall HW3.out.box;obtain ⟨hf0,hf1,hf2,hf3,hf4,hf5,hf6,hf7,hf8,hf9,hf10⟩:=fSall HW3.out.box)
 (refine (verdict_run s 0 0 (by omega) HSB.out.l0 HVB.out (.slice A2 s.data.length c2) _).mono ?_;rintro e w4 ⟨rfl,hb4⟩;have HW4:=Lib.hid (HW3.out.step hb4);clear hb4;clear hc0 hc1 hc2 hc3 hc4 hc5 hc6 hc7 hc8 hc9 hc10 hf0 hf1 hf2 hf3 hf4 hf5 hf6 hf7 hf8 hf9 hf10;obtain ⟨hc0,hc1,hc2,hc3,hc4,hc5,hc6,hc7,hc8,hc9,hc10⟩:=cSall HW4.out.box;obtain ⟨hf0,hf1,hf2,hf3,hf4,hf5,hf6,hf7,hf8,hf9,hf10⟩:=fSall HW4.out.box)
 go_wp2_with (first | (go_at_call 30;refine (impl_crcBit.same _ _ _).mono ?_;rintro e w' ⟨rfl,rfl⟩))
 have HW6 : Hid (SbO w _ ({ s with run:=s.run + 1,crc:=crcI s.crc 0 } : SS) _):=Lib.hid ((HW4.out.put (setS2 HW4.out.box (s.run + 1)) rfl).put (setS4 (setS2 HW4.out.box (s.run + 1)) (crcI s.crc 0)) rfl)
 (refine (impl_Scan_plain.calls w.heap.size _ ({ s with run:=s.run + 1,crc:=crcI s.crc 0 } : SS) 0 (by omega) (fun k => w.heap.size + 1 < k) w _ HW6.out.toIn (Nat.le_refl _) (by (try simp only []);omega) HOK.out).mono ?_;intro e w5 hE;obtain ⟨v5,h7⟩:=HW6.out.ofEnd hE;have hret:=hE.ret;subst hret;clear hE)
 rw [HTT.out] at h7
 obtain ⟨A5,c5,rfl,hC5,hc5⟩:=h7.open_
 have HW7:=Lib.hid h7
 clear h7 hC5 hc5 HTT HW6 HE1 HOK
 clear hc0 hc1 hc2 hc3 hc4 hc5 hc6 hc7 hc8 hc9 hc10 hf0 hf1 hf2 hf3 hf4 hf5 hf6 hf7 hf8 hf9 hf10
 obtain ⟨hc0,hc1,hc2,hc3,hc4,hc5,hc6,hc7,hc8,hc9,hc10⟩:=cSall HW7.out.box
 obtain ⟨hf0,hf1,hf2,hf3,hf4,hf5,hf6,hf7,hf8,hf9,hf10⟩:=fSall HW7.out.box
 have tl0 : 1 ≤ T.left:=by have:=HTK.out;have:=HF.out;omega
 have tl1 : T.left ≤ 64:=by have:=HTK.out;have:=HF.out;omega
 have HW8:=Lib.hid (HW7.out.put (setS1 HW7.out.box (T.left - 1)) rfl)
 by_cases hL : T.left - 1 = 0
 ·have bL : (T.left - 1 == 0) = true:=beq_iff_eq.mpr hL
  have HL0:=Lib.hid hL
  have HSTEP : Hid (stepS T = enterS T (afterF T)):=Lib.hid (by unfold stepS;rw [if_pos hL])
  have HAR : Hid (1 ≤ afterF T ∧ afterF T ≤ 14):=Lib.hid (by have h1:=HTK.out;have h2:=HF.out;exact afterF_range (by omega) (by omega))
  have HAI : Hid (impl_fieldAfter.f T.field T.ext T.id T.rtr T.dlc T.data = some (afterF T)):=Lib.hid (by have h1:=HTK.out;have h2:=HF.out;exact afterI (by omega) (by omega))
  have HSI : Hid (impl_fieldSize.f (afterF T) T.ext T.id T.rtr T.dlc T.data = some (sizeF { T with field:=afterF T })):=Lib.hid (sizeI (s := { T with field:=afterF T }) HAR.out.1 HAR.out.2 HTD.out.1 HTD.out.2)
  generalize afterF T = AF at HSTEP HAR HAI HSI
  clear hL
  go_wp2_with (fail)
  (refine (impl_fieldAfter.calls T.field T.ext T.id T.rtr T.dlc A5 c5 T.data AF _ (Kd.R_reads' HW8.out.row).2.2 (Kd.R_reads' HW8.out.row).2.1 HAI.out (HG.out.next HW8.out.below)).mono ?_;rintro e w9 ⟨rfl,hb9⟩;have HW9:=Lib.hid (HW8.out.step hb9);clear hb9;clear hc0 hc1 hc2 hc3 hc4 hc5 hc6 hc7 hc8 hc9 hc10 hf0 hf1 hf2 hf3 hf4 hf5 hf6 hf7 hf8 hf9 hf10;obtain ⟨hc0,hc1,hc2,hc3,hc4,hc5,hc6,hc7,hc8,hc9,hc10⟩:=cSall HW9.out.box;obtain ⟨hf0,hf1,hf2,hf3,hf4,hf5,hf6,hf7,hf8,hf9,hf10⟩:=fSall HW9.out.box)
  have HW10:=Lib.hid (HW9.out.put (setS0 HW9.out.box AF) rfl)
  go_wp2_with (fail)
  (refine (impl_fieldSize.calls AF T.ext T.id T.rtr T.dlc A5 c5 T.data _ _ (Kd.R_reads' HW10.out.row).2.2 (Kd.R_reads' HW10.out.row).2.1 HSI.out (HG.out.next HW10.out.below)).mono ?_;rintro e w11 ⟨rfl,hb11⟩;have HW11:=Lib.hid (HW10.out.step hb11);clear hb11;clear hc0 hc1 hc2 hc3 hc4 hc5 hc6 hc7 hc8 hc9 hc10 hf0 hf1 hf2 hf3 hf4 hf5 hf6 hf7 hf8 hf9 hf10;obtain ⟨hc0,hc1,hc2,hc3,hc4,hc5,hc6,hc7,hc8,hc9,hc10⟩:=cSall HW11.out.box;obtain ⟨hf0,hf1,hf2,hf3,hf4,hf5,hf6,hf7,hf8,hf9,hf10⟩:=fSall HW11.out.box)
  generalize hSZ : sizeF { T with field:=AF } = SZ at HSI ⊢
  have HSZ:=Lib.hid hSZ
  clear hSZ
  have HW12:=Lib.hid (HW11.out.put (setS1 HW11.out.box SZ) rfl)
  by_cases h9 : AF = 9
  ·have b9 : (AF == 9) = true:=beq_iff_eq.mpr h9
   have HH9:=Lib.hid h9
   clear h9
   have hns:=HW12.out.nil
   have hsz12 : (w11.setCell ⟨w.heap.size,1,none⟩ (.int .i64 SZ)).heap.size = w11.heap.size:=by simp [World.setCell]
   rw [hsz12] at hns
   have HW13:=Lib.hid hns
   clear hns hsz12
   obtain ⟨hg0,hg1,hg2,hg3,hg4,hg5,hg6,hg7,hg8,hg9,hg10⟩:=cSall (blk_alloc HW12.out.box (.cells #[] 5))
   have hgf:=fS (blk_alloc HW12.out.box (.cells #[] 5)) 10
   go_wp2_with ((with_reducible refine gate_store (t:=31) (p:=4) rfl ?_);refine store_box rfl rfl rfl (g:=w.heap.size + 1) (j:=0) (cs := #[.int .i64 0, .int .i64 0, .int .i64 0, .int .i64 0, .int .i64 0, .int .i64 0, .bool false, .int .u32 0, .bool false, .int .i64 0, .slice none 0 0]) (cs' := #[.int .i64 AF, .int .i64 SZ, .int .i64 T.run, .int .i64 T.level, .int .i64 T.crc, .int .i64 T.acc, .bool T.ext, .int .u32 T.id, .bool T.rtr, .int .i64 T.dlc,(.slice (some ⟨w11.heap.size,0,none⟩) 0 0)]) (T:=31) (u := .agg #[.int .i64 AF, .int .i64 SZ, .int .i64 T.run, .int .i64 T.level, .int .i64 T.crc, .int .i64 T.acc, .bool T.ext, .int .u32 T.id, .bool T.rtr, .int .i64 T.dlc,(.slice (some ⟨w11.heap.size,0,none⟩) 0 0)]) (seg := [.int .i64 AF, .int .i64 SZ, .int .i64 T.run, .int .i64 T.level, .int .i64 T.crc, .int .i64 T.acc, .bool T.ext, .int .u32 T.id, .bool T.rtr, .int .i64 T.dlc,(.slice (some ⟨w11.heap.size,0,none⟩) 0 0)]) rfl rfl HW13.out.res rfl (by kernel_rfl) rfl rfl rfl ?_;intro wz hx hT;have HX:=Lib.hid hx;have HTZ:=Lib.hid hT;have HBz:=Lib.hid (hT.below HW13.out.below HW13.out.below.size (fun k hk => by omega));clear hx hT)
   refine bodyPost_ret (results_ct rfl _ _ (w.heap.size + 1) 31 #[.int .i64 AF, .int .i64 SZ, .int .i64 T.run, .int .i64 T.level, .int .i64 T.crc, .int .i64 T.acc, .bool T.ext, .int .u32 T.id, .bool T.rtr, .int .i64 T.dlc,(.slice (some ⟨w11.heap.size,0,none⟩) 0 0)] (0,0) _ rfl HX.out Tryd.underlying31 rfl (by kernel_rfl)) rfl ?_
   rw [HSTEP.out,show enterS T AF = { T with field:=AF,left:=SZ,data := [] } by unfold enterS;rw [if_pos HH9.out,HSZ.out]]
   exact ⟨_,rfl,Kd.R_mono (HTZ.out.R HW13.out.row (fun k hk e => by omega)) (fun _ _ => trivial),HBz.out⟩
  ·have b9 : (AF == 9) = false:=beq_eq_false_iff_ne.mpr h9
   have HH9:=Lib.hid h9
   clear h9
   go_wp2_with ((with_reducible refine gate_store (t:=31) (p:=4) rfl ?_);refine store_box rfl rfl rfl (g:=w.heap.size + 1) (j:=0) (cs := #[.int .i64 0, .int .i64 0, .int .i64 0, .int .i64 0, .int .i64 0, .int .i64 0, .bool false, .int .u32 0, .bool false, .int .i64 0, .slice none 0 0]) (cs' := #[.int .i64 AF, .int .i64 SZ, .int .i64 T.run, .int .i64 T.level, .int .i64 T.crc, .int .i64 T.acc, .bool T.ext, .int .u32 T.id, .bool T.rtr, .int .i64 T.dlc,(.slice A5 T.data.length c5)]) (T:=31) (u := .agg #[.int .i64 AF, .int .i64 SZ, .int .i64 T.run, .int .i64 T.level, .int .i64 T.crc, .int .i64 T.acc, .bool T.ext, .int .u32 T.id, .bool T.rtr, .int .i64 T.dlc,(.slice A5 T.data.length c5)]) (seg := [.int .i64 AF, .int .i64 SZ, .int .i64 T.run, .int .i64 T.level, .int .i64 T.crc, .int .i64 T.acc, .bool T.ext, .int .u32 T.id, .bool T.rtr, .int .i64 T.dlc,(.slice A5 T.data.length c5)]) rfl rfl HW12.out.res rfl (by kernel_rfl) rfl rfl rfl ?_;intro wz hx hT;have HX:=Lib.hid hx;have HTZ:=Lib.hid hT;have HBz:=Lib.hid (hT.below HW12.out.below HW12.out.below.size (fun k hk => by omega));clear hx hT)
   refine bodyPost_ret (results_ct rfl _ _ (w.heap.size + 1) 31 #[.int .i64 AF, .int .i64 SZ, .int .i64 T.run, .int .i64 T.level, .int .i64 T.crc, .int .i64 T.acc, .bool T.ext, .int .u32 T.id, .bool T.rtr, .int .i64 T.dlc,(.slice A5 T.data.length c5)] (0,0) _ rfl HX.out Tryd.underlying31 rfl (by kernel_rfl)) rfl ?_
   rw [HSTEP.out,show enterS T AF = { T with field:=AF,left:=SZ } by unfold enterS;rw [if_neg HH9.out,HSZ.out]]
   exact ⟨_,rfl,Kd.R_mono (HTZ.out.R HW12.out.row (fun k hk e => by omega)) (fun _ _ => trivial),HBz.out⟩
 ·have bL : (T.left - 1 == 0) = false:=beq_eq_false_iff_ne.mpr hL
  have HL0:=Lib.hid hL
  have HSTEP : Hid (stepS T = { T with left:=T.left - 1 }):=Lib.hid (by unfold stepS;rw [if_neg hL])
  clear hL
  go_wp2_with ((with_reducible refine gate_store (t:=31) (p:=4) rfl ?_);refine store_box rfl rfl rfl (g:=w.heap.size + 1) (j:=0) (cs := #[.int .i64 0, .int .i64 0, .int .i64 0, .int .i64 0, .int .i64 0, .int .i64 0, .bool false, .int .u32 0, .bool false, .int .i64 0, .slice none 0 0]) (cs' := #[.int .i64 T.field, .int .i64 (T.left - 1), .int .i64 T.run, .int .i64 T.level, .int .i64 T.crc, .int .i64 T.acc, .bool T.ext, .int .u32 T.id, .bool T.rtr, .int .i64 T.dlc,(.slice A5 T.data.length c5)]) (T:=31) (u := .agg #[.int .i64 T.field, .int .i64 (T.left - 1), .int .i64 T.run, .int .i64 T.level, .int .i64 T.crc, .int .i64 T.acc, .bool T.ext, .int .u32 T.id, .bool T.rtr, .int .i64 T.dlc,(.slice A5 T.data.length c5)]) (seg := [.int .i64 T.field, .int .i64 (T.left - 1), .int .i64 T.run, .int .i64 T.level, .int .i64 T.crc, .int .i64 T.acc, .bool T.ext, .int .u32 T.id, .bool T.rtr, .int .i64 T.dlc,(.slice A5 T.data.length c5)]) rfl rfl HW8.out.res rfl (by kernel_rfl) rfl rfl rfl ?_;intro wz hx hT;have HX:=Lib.hid hx;have HTZ:=Lib.hid hT;have HBz:=Lib.hid (hT.below HW8.out.below HW8.out.below.size (fun k hk => by omega));clear hx hT)
  refine bodyPost_ret (results_ct rfl _ _ (w.heap.size + 1) 31 #[.int .i64 T.field, .int .i64 (T.left - 1), .int .i64 T.run, .int .i64 T.level, .int .i64 T.crc, .int .i64 T.acc, .bool T.ext, .int .u32 T.id, .bool T.rtr, .int .i64 T.dlc,(.slice A5 T.data.length c5)] (0,0) _ rfl HX.out Tryd.underlying31 rfl (by kernel_rfl)) rfl ?_
  rw [HSTEP.out]
  exact ⟨_,rfl,Kd.R_mono (HTZ.out.R HW8.out.row (fun k hk e => by omega)) (fun _ _ => trivial),HBz.out⟩
end Go.Proofs.YtdoclpgciadjaaaDoor.P
