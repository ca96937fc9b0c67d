/- Texts of the proof of CFnScanner, joined. -/
import Derived.Test.YtdoclpgciadjaaaDoorSCFnScanner21
import Derived.Test.YtdoclpgciadjaaaDoorSCFnScanner28
import Derived.Deep.RegionHeld
import Derived.ChangeKeysEq
import Derived.Test.YtdoclpgciadjaaaDoorSCFnScanner24
namespace Go.Proofs.YtdoclpgciadjaaaDoor.P
open Go Go.RowKit Go.Proofs.YtdoclpgciadjaaaDoorW.PrintWords
set_option linter.unusedVariables false
theorem wp_store_all {P : Program} {o : Oper} {a : Act} {K : Act → World → Prop} {Q : Exit → Act → World → Prop} {W : World} {t : TypeId} {p : Tmp} {v : Operand} (ho : o.op = .store t (.tmp p) v) {g : Nat} {cs : Array Value} {C : List Value} {T : TypeId}
  (hp : a.eval (.tmp p) = .pointer (some ⟨g,0,none⟩)) (hv : a.eval v = .agg ⟨C⟩) (hb : W.heap[g]? = some (.cells cs T (0,0))) (ht : (P.info? t).map (·.size) = some C.length) (h1 : ∀ u ∈ C,u.oneCell' = true) (hs : cs.size = C.length)
  (h : ∀ w',w'.heap[g]? = some (.cells ⟨C⟩ T (0,0)) → Tch W w' (fun k => k = g) → K (a.put o.dst undef) w') : o.wp P a W K Q:=by
 have hl : cs.toList.length = cs.size:=Array.length_toList
 have hrun:=run_store_run (P:=P) (o:=0) t (.agg ⟨C⟩) C hb rfl ht (by omega) h1
 have hcs : (cs.toList.take 0 ++ C ++ cs.toList.drop (0 + C.length)).toArray = (⟨C⟩ : Array Value):=by
  rw [List.take_zero,List.nil_append,Nat.zero_add,List.drop_of_length_le (by omega),List.append_nil]
 unfold Oper.wp execOp
 simp only [ho,hp,hv,Sem.run_bind,Sem.run_pure,Result.andThen_ok,hrun]
 show K (a.put o.dst undef) _
 refine h _ ?_ (tch_setCells _ _ _ _)
 rw [setCells_obj C 0 W cs hb (by omega),hcs]
end Go.Proofs.YtdoclpgciadjaaaDoor.P
namespace Go.Proofs.YtdoclpgciadjaaaDoor.P
open Go Go.RowKit Go.Proofs.YtdoclpgciadjaaaDoorW.PrintWords Go.Proofs.YtdoclpgciadjaaaDoorW.PrintLast Go.Proofs.YtdoclpgciadjaaaDoorW.PrintMore
set_option linter.unusedVariables false
set_option maxRecDepth 100000 in
set_option maxHeartbeats 2000000 in
theorem decode_one (P : ByteArray) (S : WS) (w : World) (hS : walkV P = S) (hc : S.code = 1) (hd : S.data.length ≤ 1000) :
  Calls Tryd.prog 16 #[.string P] w fun e w' => ∃ v,e = .returned (.tuple #[.agg #[.bool S.ext, .int .u32 S.id, .bool S.rtr, .int .i64 S.dlc,v], .int .i64 1]) ∧ Kd.R (Kd.int .u8) 5 w' w.heap.size (fun _ => True) v S.data ∧ Below w.heap.size w w':=by
 have HCF : Hid (impl_copyFrame.f S.ext S.id S.rtr S.dlc S.data = some (S.ext,S.id,S.rtr,S.dlc,S.data)):=Lib.hid (by unfold impl_copyFrame.f;simp only [Option.bind_some];rw [if_pos (by simp;omega)];rfl)
 have HC:=Lib.hid hc
 have HS:=Lib.hid hS
 clear hc hd hS
 have hu:=Tryd.underlying29
 go_enter Tryd.func16,Tryd.ntmps16
 go_upto_region 2 with (first | (go_at_call 42;refine (impl_walkOver.calls P _ _ _ _ _ _ _ _ _ _ _ _ _ rfl).mono ?_;rw [HS.out];rintro e w1 ⟨v,rfl,hr,hb⟩;obtain ⟨A,c,ev⟩:=Kd.R_slice hr;subst ev;have HRES : Hid (w1.heap[w.heap.size]? = some (.cells #[.bool false, .int .u32 0, .bool false, .int .i64 0, .slice none 0 0] 29 (0,0))):=Lib.hid (blk_below (blk_new w _) hb);have HB1 : Hid (Below w.heap.size w w1):=Lib.hid (Below.trans ((Below.refl _ _).alloc (Nat.le_refl _) _) (hb.mono (by simp)));have HR1:=Lib.hid hr;clear hr hb))
 have HX : Hid ((w1.alloc (objW S (.slice A S.data.length c))).heap[w1.heap.size]? = some (objW S (.slice A S.data.length c))):=Lib.hid (blk_new _ _)
 have HRES2:=Lib.hid (blk_alloc HRES.out (objW S (.slice A S.data.length c)))
 have HB2:=Lib.hid (HB1.out.alloc HB1.out.size (objW S (.slice A S.data.length c)))
 have HR2:=Lib.hid (Kd.R_alloc HR1.out (objW S (.slice A S.data.length c)))
 have HLT : Hid (w.heap.size < w1.heap.size):=Lib.hid (blk_lt HRES.out)
 generalize w1.heap.size = g at HX HLT ⊢
 unfold objW cellsW at HX HRES2 HB2 HR2
 generalize w1.alloc (.cells #[.int .i64 S.code, .int .i64 S.field, .int .i64 S.left, .int .i64 S.run, .int .i32 S.level, .int .i64 S.sum, .int .i64 S.got, .bool S.ext, .int .u32 S.id, .bool S.rtr, .int .i64 S.dlc, .slice A S.data.length c] 64 (0,0)) = w2 at HX HRES2 HB2 HR2 ⊢
 have HX2 : Hid (w2.heap[g]? = some (objW S (.slice A S.data.length c))):=HX
 have h0:=cW0 HX2.out
 rw [HC.out] at h0
 clear HX HRES HB1 HR1
 go_upto_region 4 with (fail)
 have HH : Hid (∀ w' : World,w'.heap[g]? = some (objW S (.slice A S.data.length c)) → ((w'.cell? ⟨g,0,none⟩ = some (.int .i64 1)) ∧ (w'.cell? ⟨g,7,none⟩ = some (.bool S.ext)) ∧ (w'.cell? ⟨g,8,none⟩ = some (.int .u32 S.id)) ∧ (w'.cell? ⟨g,9,none⟩ = some (.bool S.rtr)) ∧ (w'.cell? ⟨g,10,none⟩ = some (.int .i64 S.dlc)) ∧ (w'.cell? ⟨g,11,none⟩ = some (.slice A S.data.length c)))):=Lib.hid (fun w' h => ⟨by rw [← HC.out];exact cW0 h,cW7 h,cW8 h,cW9 h,cW10 h,cW11 h⟩)
 clear h0
 refine wp_region_held_drew (S:=fun w' => (w'.cell? ⟨g,0,none⟩ = some (.int .i64 1)) ∧ (w'.cell? ⟨g,7,none⟩ = some (.bool S.ext)) ∧ (w'.cell? ⟨g,8,none⟩ = some (.int .u32 S.id)) ∧ (w'.cell? ⟨g,9,none⟩ = some (.bool S.rtr)) ∧ (w'.cell? ⟨g,10,none⟩ = some (.int .i64 S.dlc)) ∧ (w'.cell? ⟨g,11,none⟩ = some (.slice A S.data.length c))) (by kernel_rfl) (HH.out _ HX2.out) (fun hH0 => ?_)
 refine wpAnyH_take (i:=0) (v := .pointer (some ⟨g,7,none⟩)) rfl (by kernel_rfl) (by kernel_rfl) (by kernel_rfl) (fun _ _ _ h => h) (Or.inl ⟨by rfl, ?_⟩) (by assumption) ?_
 ·(intro wq hSw;(try dsimp only at hSw);go_simp;try (with_reducible rfl))
 refine wpAnyH_take (i:=1) (v := .agg #[.bool S.ext, .int .u32 S.id, .bool S.rtr, .int .i64 S.dlc, .slice A S.data.length c]) rfl (by kernel_rfl) (by kernel_rfl) (by kernel_rfl) (fun _ _ _ h => h) (Or.inl ⟨by rfl, ?_⟩) (by assumption) ?_
 ·(intro wq hSw;(try dsimp only at hSw);go_simp;try (with_reducible rfl))
 refine wpAnyH_take (i:=3) (v := .pointer (some ⟨g,0,none⟩)) rfl (by kernel_rfl) (by kernel_rfl) (by kernel_rfl) (fun _ _ _ h => h) (Or.inl ⟨by rfl, ?_⟩) (by assumption) ?_
 ·(intro wq hSw;(try dsimp only at hSw);go_simp;try (with_reducible rfl))
 refine wpAnyH_take (i:=4) (v := .int .i64 1) rfl (by kernel_rfl) (by kernel_rfl) (by kernel_rfl) (fun _ _ _ h => h) (Or.inl ⟨by rfl, ?_⟩) (by assumption) ?_
 ·(intro wq hSw;(try dsimp only at hSw);go_simp;try (with_reducible rfl))
 refine wpAnyH_ready (rs := [2]) (by kernel_rfl) (by simp) ?_
 refine AllReadyH.cons rfl (fun K hK => ?_) AllReadyH.nil
 go_simp
 go_wp2_with (first | (go_at_call 28;refine (impl_copyFrame.calls S.ext S.id S.rtr S.dlc A c S.data _ _ _ _ _ w2.drew (Kd.R_reads' (Kd.R_drew HR2.out)).2.2 (Kd.R_reads' (Kd.R_drew HR2.out)).2.1 HCF.out).mono ?_;rintro e w5 ⟨v,rfl,hr,hb⟩;obtain ⟨A5,c5,ev⟩:=Kd.R_slice hr;subst ev;have hb':=Below.trans (below_drew (Below.refl _ w2)) hb;have HRES5:=Lib.hid (blk_below HRES2.out hb');have HX5:=Lib.hid (blk_below HX2.out hb');have HB5:=Lib.hid (HB2.out.trans (hb'.mono HB2.out.size));have HL5 : Hid (w.heap.size < w2.heap.size):=Lib.hid (blk_lt HRES2.out);have HR5:=Lib.hid hr;clear hr hb hb'))
 refine hK.out _ _ (HH.out _ HX5.out) (fun hH1 => ?_)
 clear hK K
 refine wpAnyH_ready (rs := [5]) (by kernel_rfl) (by simp) ?_
 refine AllReadyH.cons rfl (fun K hK => ?_) AllReadyH.nil
 rw [if_pos (by rfl)]
 refine wp_store_all rfl (g:=w.heap.size) (cs := #[.bool false, .int .u32 0, .bool false, .int .i64 0, .slice none 0 0]) (C := [.bool S.ext, .int .u32 S.id, .bool S.rtr, .int .i64 S.dlc, .slice A5 S.data.length c5]) (T:=29) rfl rfl HRES5.out (by kernel_rfl) (List.all_eq_true.1 (by kernel_rfl : ([.bool S.ext, .int .u32 S.id, .bool S.rtr, .int .i64 S.dlc, .slice A5 S.data.length c5] : List Value).all (·.oneCell') = true)) rfl ?_
 intro w7 hx hT
 have HX7:=Lib.hid hx
 have HT7:=Lib.hid hT
 clear hx hT
 refine hK.out _ _ (HH.out _ (HT7.out.blk HX5.out (by have:=HLT.out;omega))) (fun hH2 => ?_)
 clear hK K
 refine wpAnyH_ready (rs := [6]) (by kernel_rfl) (by simp) ?_
 refine AllReadyH.cons rfl (fun K hK => ?_) AllReadyH.nil
 go_simp
 refine hK.out _ _ (HH.out _ (HT7.out.blk HX5.out (by have:=HLT.out;omega))) (fun hH3 => ?_)
 clear hK K
 refine wpAnyH_done (by kernel_rfl) ?_ _
 clear hH0 hH1 hH2 hH3
 go_wp2_with (fail)
 refine bodyPost_ret (results_ct rfl _ _ w.heap.size 29 #[.bool S.ext, .int .u32 S.id, .bool S.rtr, .int .i64 S.dlc, .slice A5 S.data.length c5] (0,0) _ rfl HX7.out Tryd.underlying29 rfl (by kernel_rfl)) rfl ?_
 exact ⟨_,rfl,Kd.R_mono (HT7.out.R (Kd.R_lower (Kd.R_bound HR5.out) (by have:=HL5.out;show w.heap.size ≤ w2.drew.heap.size;exact Nat.le_of_lt this)) (fun k hk e => by have h1:=hk.2.1;have h2:=HL5.out;have h3 : w2.drew.heap.size = w2.heap.size:=rfl;omega)) (fun _ _ => trivial),HT7.out.below HB5.out HB5.out.size (fun k hk => by omega)⟩
theorem decode_v {P : ByteArray} {e : Bool} {i : Int} {r : Bool} {d : Int} {l : List Int} (h : DecIs P e i r d l) (hl : l.length ≤ 1000) (w : World) :
  Calls Tryd.prog 16 #[.string P] w fun x w' => ∃ v,x = .returned (.tuple #[.agg #[.bool e, .int .u32 i, .bool r, .int .i64 d,v], .int .i64 1]) ∧ Kd.R (Kd.int .u8) 5 w' w.heap.size (fun _ => True) v l ∧ Below w.heap.size w w':=by
 obtain ⟨S,hS,hc,rfl,rfl,rfl,rfl,rfl⟩:=h
 exact decode_one P S w hS hc hl
end Go.Proofs.YtdoclpgciadjaaaDoor.P
namespace Go.Proofs.YtdoclpgciadjaaaDoor.P
open Go.RowKit Go.Proofs.YtdoclpgciadjaaaDoorW.PrintWords Go.Proofs.YtdoclpgciadjaaaDoorW.PrintLast Go.Proofs.YtdoclpgciadjaaaDoorW.PrintMore
set_option linter.unusedVariables false
set_option linter.unusedSimpArgs false
def IsS80 (w0 W : World) (g : Nat) (f0 : List Int) (f1 : Int) (f2 : Int) : Prop := ∃ A0 c0,W.heap[g]? = some (.cells #[.slice A0 f0.length c0, .int .i64 f1, .int .u64 f2] 80 (0,0)) ∧ w0.heap.size ≤ g ∧ Kd.C (Kd.int .u8) w0 A0 f0.length f0
theorem IsS80.grown {w0 W : World} {g : Nat} {f0 : List Int} {f1 : Int} {f2 : Int} {W1 : World} {row : Option Nat} (h : IsS80 w0 W g f0 f1 f2) (hw : W.grownBy W1 row) (hne : some g ≠ row) : IsS80 w0 W1 g f0 f1 f2:=by
 obtain ⟨A0,c0,hb,hg,hr0⟩:=h
 exact ⟨A0,c0,blk_grown hb hw hne,hg,hr0⟩
theorem IsS80.fresh {w0 W : World} {g : Nat} {f0 : List Int} {f1 : Int} {f2 : Int} (h : IsS80 w0 W g f0 f1 f2) : ∀ k,W.heap.size ≤ k → k ≠ g:=by
 obtain ⟨A0,c0,hb,hg,hr0⟩:=h
 exact Kd.freshB hb
theorem IsS80.kept {w0 W : World} {g : Nat} {f0 : List Int} {f1 : Int} {f2 : Int} {W1 : World} {S : Nat → Prop} (h : IsS80 w0 W g f0 f1 f2) (hk : Kept W W1 S) (hne : ¬ S g) : IsS80 w0 W1 g f0 f1 f2:=by
 obtain ⟨A0,c0,hb,hg,hr0⟩:=h
 exact ⟨A0,c0,blk_kept hb hk hne,hg,hr0⟩
theorem IsS80.below {w0 W : World} {g : Nat} {f0 : List Int} {f1 : Int} {f2 : Int} {W1 : World} (h : IsS80 w0 W g f0 f1 f2) (hw : Below W.heap.size W W1) : IsS80 w0 W1 g f0 f1 f2:=h.grown (grown_of_below hw none) (by simp)
theorem IsS80.alloc {w0 W : World} {g : Nat} {f0 : List Int} {f1 : Int} {f2 : Int} (h : IsS80 w0 W g f0 f1 f2) (o : Obj) : IsS80 w0 (W.alloc o) g f0 f1 f2:=h.below (below_alloc (Below.refl _ _) o)
theorem IsS80.drewN {w0 W : World} {g : Nat} {f0 : List Int} {f1 : Int} {f2 : Int} (h : IsS80 w0 W g f0 f1 f2) (m : Nat) : IsS80 w0 (W.drewN m) g f0 f1 f2:=h
theorem IsS80.drew {w0 W : World} {g : Nat} {f0 : List Int} {f1 : Int} {f2 : Int} (h : IsS80 w0 W g f0 f1 f2) : IsS80 w0 W.drew g f0 f1 f2:=h
theorem IsS80.at_ {w0 W : World} {g : Nat} {f0 : List Int} {f1 : Int} {f2 : Int} {w' : World} {m : Nat} (hq : W.drewN m = w') (h : IsS80 w0 W g f0 f1 f2) : IsS80 w0 w' g f0 f1 f2:=by subst hq;exact IsS80.drewN h m
theorem IsS80.apart {w0 W : World} {g : Nat} {f0 : List Int} {f1 : Int} {f2 : Int} {α : Type} {d : Kd α} {e : Nat} {base : Nat} {ok : Nat → Prop} {v : Value} {xs : List α} (h : IsS80 w0 W g f0 f1 f2) (ho : d.R e W base ok v xs) (ht : ∀ q,q ∈ e :: d.E → q ≠ 80) : d.R e W base (fun k => ok k ∧ k ≠ g) v xs:=by
 obtain ⟨A0,c0,hb,hg,hr0⟩:=h
 exact Kd.R_types ho hb ht
theorem IsS80.own_ne {w0 W : World} {g : Nat} {f0 : List Int} {f1 : Int} {f2 : Int} {α : Type} {d : Kd α} {e : Nat} {base : Nat} {ok : Nat → Prop} {v : Value} {xs : List α} (h : IsS80 w0 W g f0 f1 f2) (ho : d.R e W base ok v xs) (ht : e ≠ 80) : some g ≠ v.ownBlock:=by
 obtain ⟨A0,c0,hb,hg,hr0⟩:=h
 exact Kd.R_ne ho hb ht
theorem IsS80.lt {w0 W : World} {g : Nat} {f0 : List Int} {f1 : Int} {f2 : Int} (h : IsS80 w0 W g f0 f1 f2) : g < W.heap.size:=by
 obtain ⟨A0,c0,hb,hg,hr0⟩:=h
 exact blk_lt hb
theorem IsS80.ge {w0 W : World} {g : Nat} {f0 : List Int} {f1 : Int} {f2 : Int} (h : IsS80 w0 W g f0 f1 f2) : w0.heap.size ≤ g:=by
 obtain ⟨A0,c0,hb,hg,hr0⟩:=h
 exact hg
theorem IsS80.far {w0 W : World} {g : Nat} {f0 : List Int} {f1 : Int} {f2 : Int} {p : Addr} (h : IsS80 w0 W g f0 f1 f2) (hne : g ≠ p.block) (u : Value) : IsS80 w0 (W.setCell p u) g f0 f1 f2:=by
 obtain ⟨A0,c0,hb,hg,hr0⟩:=h
 exact ⟨A0,c0,blk_far hb hne u,hg,hr0⟩
theorem cellS80_0 {W : World} {g : Nat} {A0 : Option Addr} {c0 : Nat} {f0 : List Int} {f1 : Int} {f2 : Int} (h : W.heap[g]? = some (.cells #[.slice A0 f0.length c0, .int .i64 f1, .int .u64 f2] 80 (0,0))) : W.cell? ⟨g,0,none⟩ = some (.slice A0 f0.length c0):=(blk_cell h 0).trans rfl
theorem cellS80_1 {W : World} {g : Nat} {A0 : Option Addr} {c0 : Nat} {f0 : List Int} {f1 : Int} {f2 : Int} (h : W.heap[g]? = some (.cells #[.slice A0 f0.length c0, .int .i64 f1, .int .u64 f2] 80 (0,0))) : W.cell? ⟨g,1,none⟩ = some (.int .i64 f1):=(blk_cell h 1).trans rfl
theorem IsS80.set_1 {w0 W : World} {g : Nat} {f0 : List Int} {f1 : Int} {f2 : Int} (h : IsS80 w0 W g f0 f1 f2) (x : Int) : IsS80 w0 (W.setCell ⟨g,1,none⟩ (.int .i64 x)) g f0 x f2:=by
 obtain ⟨A0,c0,hb,hg,hr0⟩:=h
 exact ⟨A0,c0,by simpa using blk_set hb 1 (.int .i64 x),hg,hr0⟩
theorem cellS80_2 {W : World} {g : Nat} {A0 : Option Addr} {c0 : Nat} {f0 : List Int} {f1 : Int} {f2 : Int} (h : W.heap[g]? = some (.cells #[.slice A0 f0.length c0, .int .i64 f1, .int .u64 f2] 80 (0,0))) : W.cell? ⟨g,2,none⟩ = some (.int .u64 f2):=(blk_cell h 2).trans rfl
theorem IsS80.set_2 {w0 W : World} {g : Nat} {f0 : List Int} {f1 : Int} {f2 : Int} (h : IsS80 w0 W g f0 f1 f2) (x : Int) : IsS80 w0 (W.setCell ⟨g,2,none⟩ (.int .u64 x)) g f0 f1 x:=by
 obtain ⟨A0,c0,hb,hg,hr0⟩:=h
 exact ⟨A0,c0,by simpa using blk_set hb 2 (.int .u64 x),hg,hr0⟩
theorem IsS80.new (w0 W : World) (A0 : Option Addr) (c0 : Nat) (f0 : List Int) (f1 : Int) (f2 : Int) (hB : Below w0.heap.size w0 W) (hr0 : Kd.C (Kd.int .u8) w0 A0 f0.length f0) : IsS80 w0 (W.alloc (.cells #[.slice A0 f0.length c0, .int .i64 f1, .int .u64 f2] 80)) W.heap.size f0 f1 f2:=⟨A0,c0,by simpa using heap_alloc_new W _,hB.size,hr0⟩
def spec_l1new.f (l0 : List Int) : Option (List Int × Int × Int):=some (l0,0,IntKind.u64.wrap ((IntKind.u64.wrap ((l0.length : Int))) + 77))
set_option maxHeartbeats 8000000 in
set_option maxRecDepth 100000 in
theorem spec_l1new.calls (A0 : Option Addr) (c0 : Nat) (l0 : List Int) (r1 : List Int) (r2 : Int) (r3 : Int) (w0 w : World) (hB : Below w0.heap.size w0 w) (hr0 : Kd.C (Kd.int .u8) w0 A0 l0.length l0) (hc0 : l0.length ≤ c0) (h : spec_l1new.f l0 = some (r1,r2,r3)) :
  Calls Tryd.prog 37 #[.slice A0 l0.length c0] w fun e w' => ∃ g_ : Nat,e = .returned (.pointer (some ⟨g_,0,none⟩)) ∧ IsS80 w0 w' g_ r1 r2 r3 ∧ Below w0.heap.size w0 w' ∧ Below w.heap.size w w':=by
 have hu80:=Tryd.underlying80
 have HR0:=Aside0.mk hr0
 have HC0:=Aside0.mk hc0
 clear hr0 hc0
 have HBW:=Aside0.mk (Below.refl w.heap.size w)
 have HW0:=Aside0.mk hB.size
 have HB:=Aside0.mk hB
 clear hB
 have H : (some (l0,0,IntKind.u64.wrap ((IntKind.u64.wrap ((l0.length : Int))) + 77))) = some (r1,r2,r3):=h
 clear h
 simp only [Option.some.injEq,Prod.mk.injEq] at H
 obtain ⟨rfl,rfl,rfl⟩:=H
 go_enter Tryd.func37,Tryd.ntmps37
 go_wp2_with (first | ((with_reducible refine gate_dst (N:=9) rfl ?_);refine box_event ?hg (N:=9) ?hd (cs := #[.slice A0 l0.length c0, .int .i64 0, .int .u64 (IntKind.u64.wrap ((IntKind.u64.wrap ((l0.length : Int))) + 77))]) (t:=80) ?hr ?_;(case hd => rfl);(case hg => rfl);(case hr => first | (go_simp;done) | (go_simp;rfl));intro gb112 hg w2 hbox hb;have n0_:=Aside0.mk (below_step HBW.out hb);have n1_:=Aside0.mk (below_step (by repeat (first | (with_reducible first | exact HB.out | apply below_alloc | apply pw_below_drewN | apply below_drew1) | exact HB.out)) hb);have n2_:=Aside0.mk (hbox);have n3_:=Aside0.mk ((by rw [hg];exact (below_size (by repeat (first | (with_reducible first | exact HBW.out | apply below_alloc | apply pw_below_drewN | apply below_drew1) | exact HBW.out))) : w.heap.size ≤ gb112));have n4_:=Aside0.mk ((Nat.le_trans HW0.out (by rw [hg];exact (below_size (by repeat (first | (with_reducible first | exact HBW.out | apply below_alloc | apply pw_below_drewN | apply below_drew1) | exact HBW.out))) : w.heap.size ≤ gb112) : w0.heap.size ≤ gb112));clear HBW;clear HB;have HBW:=n0_;have HB:=n1_;have BK112:=n2_;have GW112:=n3_;have GE112:=n4_;clear n0_ n1_ n2_ n3_ n4_;clear hb hbox hg))
 go_ret
 exact ⟨_,rfl,(show IsS80 w0 _ gb112 l0 0 (IntKind.u64.wrap ((IntKind.u64.wrap ((l0.length : Int))) + 77)) from ⟨_,_,by (with_reducible repeat (first | refine blk_drewN ?_ _ | refine blk_drew ?_ | refine blk_alloc ?_ _));exact BK112.out,GE112.out,HR0.out⟩),by repeat (first | (with_reducible first | exact HB.out | apply below_alloc | apply pw_below_drewN | apply below_drew1 | refine below_set ?_ GE112.out) | exact HB.out),by repeat (first | (with_reducible first | exact HBW.out | apply below_alloc | apply pw_below_drewN | apply below_drew1 | refine below_set ?_ GW112.out) | exact HBW.out)⟩
def spec_l1src_n.f (s0_0 : List Int) (s0_1 : Int) (s0_2 : Int) (a1 : Int) : Option (Int × Int × Int):=if s0_1 < (s0_0.length : Int) then (if 0 ≤ s0_1 then (if a1 ≤ 1 then (some (0,wrap64 (s0_1 + 1),IntKind.u64.wrap ((IntKind.u64.wrap ((IntKind.u64.wrap ((IntKind.u64.wrap (s0_2 + (IntKind.u64.wrap (rd s0_0 s0_1)))) + 1)) * 6364136223846793005)) + 1442695040888963407))) else (if (IntKind.u64.wrap (a1)) = 0 then (none) else (some (wrap64 (Int.tmod ((IntKind.u64.wrap ((IntKind.u64.wrap ((IntKind.u64.wrap ((IntKind.u64.wrap (s0_2 + (IntKind.u64.wrap (rd s0_0 s0_1)))) + 1)) * 6364136223846793005)) + 1442695040888963407)) / 8589934592) (IntKind.u64.wrap (a1))),wrap64 (s0_1 + 1),IntKind.u64.wrap ((IntKind.u64.wrap ((IntKind.u64.wrap ((IntKind.u64.wrap (s0_2 + (IntKind.u64.wrap (rd s0_0 s0_1)))) + 1)) * 6364136223846793005)) + 1442695040888963407))))) else (none)) else (if a1 ≤ 1 then (some (0,wrap64 (s0_1 + 1),IntKind.u64.wrap ((IntKind.u64.wrap ((IntKind.u64.wrap ((IntKind.u64.wrap s0_2) + 1)) * 6364136223846793005)) + 1442695040888963407))) else (if (IntKind.u64.wrap (a1)) = 0 then (none) else (some (wrap64 (Int.tmod ((IntKind.u64.wrap ((IntKind.u64.wrap ((IntKind.u64.wrap ((IntKind.u64.wrap s0_2) + 1)) * 6364136223846793005)) + 1442695040888963407)) / 8589934592) (IntKind.u64.wrap (a1))),wrap64 (s0_1 + 1),IntKind.u64.wrap ((IntKind.u64.wrap ((IntKind.u64.wrap ((IntKind.u64.wrap s0_2) + 1)) * 6364136223846793005)) + 1442695040888963407)))))
set_option maxHeartbeats 8000000 in
set_option maxRecDepth 100000 in
theorem spec_l1src_n.calls (g : Nat) (s0_0 : List Int) (s0_1 : Int) (s0_2 : Int) (a1 : Int) (r1 : Int) (r2 : Int) (r3 : Int) (w0 w : World) (hI : IsS80 w0 w g s0_0 s0_1 s0_2) (hB : Below w0.heap.size w0 w) (h : spec_l1src_n.f s0_0 s0_1 s0_2 a1 = some (r1,r2,r3)) :
  Calls Tryd.prog 38 #[.pointer (some ⟨g,0,none⟩), .int .i64 a1] w fun e w' => e = .returned (.int .i64 r1) ∧ IsS80 w0 w' g s0_0 r2 r3 ∧ Below w0.heap.size w0 w' ∧ KeepBut w w' g none:=by
 have HI0:=Aside0.mk hI
 have HK:=Aside0.mk (KeepBut.refl w g none)
 have HL:=Aside0.mk hB.size
 clear hI
 have HW0:=Aside0.mk hB.size
 have HB:=Aside0.mk hB
 clear hB
 have H : (if s0_1 < (s0_0.length : Int) then (if 0 ≤ s0_1 then (if a1 ≤ 1 then (some (0,wrap64 (s0_1 + 1),IntKind.u64.wrap ((IntKind.u64.wrap ((IntKind.u64.wrap ((IntKind.u64.wrap (s0_2 + (IntKind.u64.wrap (rd s0_0 s0_1)))) + 1)) * 6364136223846793005)) + 1442695040888963407))) else (if (IntKind.u64.wrap (a1)) = 0 then (none) else (some (wrap64 (Int.tmod ((IntKind.u64.wrap ((IntKind.u64.wrap ((IntKind.u64.wrap ((IntKind.u64.wrap (s0_2 + (IntKind.u64.wrap (rd s0_0 s0_1)))) + 1)) * 6364136223846793005)) + 1442695040888963407)) / 8589934592) (IntKind.u64.wrap (a1))),wrap64 (s0_1 + 1),IntKind.u64.wrap ((IntKind.u64.wrap ((IntKind.u64.wrap ((IntKind.u64.wrap (s0_2 + (IntKind.u64.wrap (rd s0_0 s0_1)))) + 1)) * 6364136223846793005)) + 1442695040888963407))))) else (none)) else (if a1 ≤ 1 then (some (0,wrap64 (s0_1 + 1),IntKind.u64.wrap ((IntKind.u64.wrap ((IntKind.u64.wrap ((IntKind.u64.wrap s0_2) + 1)) * 6364136223846793005)) + 1442695040888963407))) else (if (IntKind.u64.wrap (a1)) = 0 then (none) else (some (wrap64 (Int.tmod ((IntKind.u64.wrap ((IntKind.u64.wrap ((IntKind.u64.wrap ((IntKind.u64.wrap s0_2) + 1)) * 6364136223846793005)) + 1442695040888963407)) / 8589934592) (IntKind.u64.wrap (a1))),wrap64 (s0_1 + 1),IntKind.u64.wrap ((IntKind.u64.wrap ((IntKind.u64.wrap ((IntKind.u64.wrap s0_2) + 1)) * 6364136223846793005)) + 1442695040888963407)))))) = some (r1,r2,r3):=h
 clear h
 by_cases c3 : s0_1 < (s0_0.length : Int)
 ·rw [if_pos c3] at H
  have c3b0 : decide (s0_1 < (s0_0.length : Int)) = true:=decide_eq_true c3
  clear c3
  by_cases c4 : 0 ≤ s0_1
  ·rw [if_pos c4] at H
   have c4b0 : decide (0 ≤ s0_1) = true:=decide_eq_true c4
   clear c4
   by_cases c5 : a1 ≤ 1
   ·rw [if_pos c5] at H
    have c5b0 : decide (a1 ≤ 1) = true:=decide_eq_true c5
    clear c5
    simp only [Option.some.injEq,Prod.mk.injEq] at H
    obtain ⟨rfl,rfl,rfl⟩:=H
    obtain ⟨ASz6_0,cSz6_0,HGz6,hgz6,HSz6_0⟩:=HI0.out
    have hcz6_0:=cellS80_0 HGz6
    have hcz6_1:=cellS80_1 HGz6
    have hcz6_2:=cellS80_2 HGz6
    have hfz6_1:=blk_frozen HGz6 1
    have hfz6_2:=blk_frozen HGz6 2
    clear HGz6 hgz6
    have p113 : 0 ≤ (s0_1 : Int):=of_decide_eq_true (by first | (with_reducible assumption) | assumption)
    have q113 : s0_1 < (s0_0.length : Int):=of_decide_eq_true (by first | (with_reducible assumption) | assumption)
    obtain ⟨ad113,e113,hx113_0⟩:=Kd.at_int HSz6_0 s0_1 p113 q113
    cases e113
    replace hx113_0:=pw_cell_below HB.out hx113_0
    replace p113:=eq_true p113
    replace q113:=eq_true q113
    go_enter Tryd.func38,Tryd.ntmps38
    go_wp2
    repeat (go_quiet (fail);try go_wp2)
    go_ret
    exact ⟨by first | rfl | (simp [errW_none,errW_some] <;> rfl) | (simp [*,errW_none,errW_some] <;> rfl),by repeat (first | (with_reducible first | exact HI0.out | apply IsS80.alloc | apply IsS80.drewN | apply IsS80.drew | apply IsS80.set_1 | apply IsS80.set_2) | exact HI0.out),by repeat (first | (with_reducible first | exact HB.out | apply below_alloc | apply pw_below_drewN | apply below_drew1 | refine below_set ?_ (IsS80.ge HI0.out)) | exact HB.out),by repeat (first | (with_reducible first | exact HK.out | apply KeepBut.set_ | apply keep_drewN | apply keep_drew | apply keep_alloc) | exact HK.out)⟩
   ·rw [if_neg c5] at H
    have c5b0 : decide (a1 ≤ 1) = false:=decide_eq_false c5
    clear c5
    by_cases c7 : (IntKind.u64.wrap (a1)) = 0
    ·rw [if_pos c7] at H
     exact absurd H (by simp)
    ·rw [if_neg c7] at H
     have c7b0 : ((IntKind.u64.wrap (a1)) == 0) = false:=beq_eq_false_iff_ne.mpr c7
     have c7b1 : ((IntKind.u64.wrap (a1)) != 0) = true:=bne_iff_ne.mpr c7
     simp only [Option.some.injEq,Prod.mk.injEq] at H
     obtain ⟨rfl,rfl,rfl⟩:=H
     obtain ⟨ASz8_0,cSz8_0,HGz8,hgz8,HSz8_0⟩:=HI0.out
     have hcz8_0:=cellS80_0 HGz8
     have hcz8_1:=cellS80_1 HGz8
     have hcz8_2:=cellS80_2 HGz8
     have hfz8_1:=blk_frozen HGz8 1
     have hfz8_2:=blk_frozen HGz8 2
     clear HGz8 hgz8
     have p113 : 0 ≤ (s0_1 : Int):=of_decide_eq_true (by first | (with_reducible assumption) | assumption)
     have q113 : s0_1 < (s0_0.length : Int):=of_decide_eq_true (by first | (with_reducible assumption) | assumption)
     obtain ⟨ad113,e113,hx113_0⟩:=Kd.at_int HSz8_0 s0_1 p113 q113
     cases e113
     replace hx113_0:=pw_cell_below HB.out hx113_0
     replace p113:=eq_true p113
     replace q113:=eq_true q113
     go_enter Tryd.func38,Tryd.ntmps38
     go_wp2
     repeat (go_quiet (fail);try go_wp2)
     go_ret
     exact ⟨by first | rfl | (simp [errW_none,errW_some] <;> rfl) | (simp [*,errW_none,errW_some] <;> rfl),by repeat (first | (with_reducible first | exact HI0.out | apply IsS80.alloc | apply IsS80.drewN | apply IsS80.drew | apply IsS80.set_1 | apply IsS80.set_2) | exact HI0.out),by repeat (first | (with_reducible first | exact HB.out | apply below_alloc | apply pw_below_drewN | apply below_drew1 | refine below_set ?_ (IsS80.ge HI0.out)) | exact HB.out),by repeat (first | (with_reducible first | exact HK.out | apply KeepBut.set_ | apply keep_drewN | apply keep_drew | apply keep_alloc) | exact HK.out)⟩
  ·rw [if_neg c4] at H
   exact absurd H (by simp)
 ·rw [if_neg c3] at H
  have c3b0 : decide (s0_1 < (s0_0.length : Int)) = false:=decide_eq_false c3
  clear c3
  by_cases c9 : a1 ≤ 1
  ·rw [if_pos c9] at H
   have c9b0 : decide (a1 ≤ 1) = true:=decide_eq_true c9
   clear c9
   simp only [Option.some.injEq,Prod.mk.injEq] at H
   obtain ⟨rfl,rfl,rfl⟩:=H
   obtain ⟨ASz10_0,cSz10_0,HGz10,hgz10,HSz10_0⟩:=HI0.out
   have hcz10_0:=cellS80_0 HGz10
   have hcz10_1:=cellS80_1 HGz10
   have hcz10_2:=cellS80_2 HGz10
   have hfz10_1:=blk_frozen HGz10 1
   have hfz10_2:=blk_frozen HGz10 2
   clear HGz10 hgz10
   go_enter Tryd.func38,Tryd.ntmps38
   go_wp2
   repeat (go_quiet (fail);try go_wp2)
   go_ret
   exact ⟨by first | rfl | (simp [errW_none,errW_some] <;> rfl) | (simp [*,errW_none,errW_some] <;> rfl),by repeat (first | (with_reducible first | exact HI0.out | apply IsS80.alloc | apply IsS80.drewN | apply IsS80.drew | apply IsS80.set_1 | apply IsS80.set_2) | exact HI0.out),by repeat (first | (with_reducible first | exact HB.out | apply below_alloc | apply pw_below_drewN | apply below_drew1 | refine below_set ?_ (IsS80.ge HI0.out)) | exact HB.out),by repeat (first | (with_reducible first | exact HK.out | apply KeepBut.set_ | apply keep_drewN | apply keep_drew | apply keep_alloc) | exact HK.out)⟩
  ·rw [if_neg c9] at H
   have c9b0 : decide (a1 ≤ 1) = false:=decide_eq_false c9
   clear c9
   by_cases c11 : (IntKind.u64.wrap (a1)) = 0
   ·rw [if_pos c11] at H
    exact absurd H (by simp)
   ·rw [if_neg c11] at H
    have c11b0 : ((IntKind.u64.wrap (a1)) == 0) = false:=beq_eq_false_iff_ne.mpr c11
    have c11b1 : ((IntKind.u64.wrap (a1)) != 0) = true:=bne_iff_ne.mpr c11
    simp only [Option.some.injEq,Prod.mk.injEq] at H
    obtain ⟨rfl,rfl,rfl⟩:=H
    obtain ⟨ASz12_0,cSz12_0,HGz12,hgz12,HSz12_0⟩:=HI0.out
    have hcz12_0:=cellS80_0 HGz12
    have hcz12_1:=cellS80_1 HGz12
    have hcz12_2:=cellS80_2 HGz12
    have hfz12_1:=blk_frozen HGz12 1
    have hfz12_2:=blk_frozen HGz12 2
    clear HGz12 hgz12
    go_enter Tryd.func38,Tryd.ntmps38
    go_wp2
    repeat (go_quiet (fail);try go_wp2)
    go_ret
    exact ⟨by first | rfl | (simp [errW_none,errW_some] <;> rfl) | (simp [*,errW_none,errW_some] <;> rfl),by repeat (first | (with_reducible first | exact HI0.out | apply IsS80.alloc | apply IsS80.drewN | apply IsS80.drew | apply IsS80.set_1 | apply IsS80.set_2) | exact HI0.out),by repeat (first | (with_reducible first | exact HB.out | apply below_alloc | apply pw_below_drewN | apply below_drew1 | refine below_set ?_ (IsS80.ge HI0.out)) | exact HB.out),by repeat (first | (with_reducible first | exact HK.out | apply KeepBut.set_ | apply keep_drewN | apply keep_drew | apply keep_alloc) | exact HK.out)⟩
end Go.Proofs.YtdoclpgciadjaaaDoor.P
namespace Go.Proofs.YtdoclpgciadjaaaDoor.P
open Go Go.RowKit Go.Proofs.YtdoclpgciadjaaaDoorW.PrintWords Go.Proofs.YtdoclpgciadjaaaDoorW.PrintLast
set_option linter.unusedVariables false
theorem u64_range (x : Int) : 0 ≤ IntKind.u64.wrap x ∧ IntKind.u64.wrap x < 18446744073709551616:=by rw [IntKind.wrap_u64];omega
theorem pick_range (X a : Int) (h0 : 0 ≤ X) (h1 : X < 18446744073709551616) (ha : 1 ≤ a) (hb : a ≤ 900000000) : 0 ≤ wrap64 (Int.tmod (X / 8589934592) (IntKind.u64.wrap a)) ∧ wrap64 (Int.tmod (X / 8589934592) (IntKind.u64.wrap a)) < a:=by
 rw [show IntKind.u64.wrap a = a by rw [IntKind.wrap_u64];omega,Int.tmod_eq_emod_of_nonneg (by omega)]
 have h2:=Int.emod_nonneg (X / 8589934592) (show a ≠ 0 by omega)
 have h3:=Int.emod_lt_of_pos (X / 8589934592) (show 0 < a by omega)
 rw [w64 h2 (by omega)]
 exact ⟨h2,h3⟩
theorem n_ex (s0 : List Int) (i s a : Int) (hi : 0 ≤ i) (hi2 : i < 100000000000) (ha : 1 ≤ a) (hb : a ≤ 900000000) : ∃ v s',spec_l1src_n.f s0 i s a = some (v,i + 1,s') ∧ 0 ≤ v ∧ v < a:=by
 have hw : wrap64 (i + 1) = i + 1:=by unfold wrap64;omega
 have hn : ¬ IntKind.u64.wrap a = 0:=by rw [IntKind.wrap_u64];omega
 unfold spec_l1src_n.f
 rw [hw]
 by_cases c : i < (s0.length : Int)
 ·rw [if_pos c,if_pos hi]
  by_cases c1 : a ≤ 1
  ·rw [if_pos c1];exact ⟨_,_,rfl,by omega,by omega⟩
  ·rw [if_neg c1,if_neg hn]
   refine ⟨_,_,rfl, ?_⟩
   exact pick_range _ a (u64_range _).1 (u64_range _).2 ha hb
 ·rw [if_neg c]
  by_cases c1 : a ≤ 1
  ·rw [if_pos c1];exact ⟨_,_,rfl,by omega,by omega⟩
  ·rw [if_neg c1,if_neg hn]
   refine ⟨_,_,rfl, ?_⟩
   exact pick_range _ a (u64_range _).1 (u64_range _).2 ha hb
end Go.Proofs.YtdoclpgciadjaaaDoor.P
namespace Go.Proofs.YtdoclpgciadjaaaDoor.P
open Go.RowKit Go.Proofs.YtdoclpgciadjaaaDoorW.PrintWords Go.Proofs.YtdoclpgciadjaaaDoorW.PrintLast Go.Proofs.YtdoclpgciadjaaaDoorW.PrintMore
set_option linter.unusedVariables false
set_option linter.unusedSimpArgs false
def spec_l1other.f (a0 : Int) : Option (Int):=if a0 = 48 then (some 49) else (some 48)
set_option maxHeartbeats 8000000 in
set_option maxRecDepth 100000 in
theorem spec_l1other.calls (a0 : Int) (r : Int) (w : World) (h : spec_l1other.f a0 = some r) :
  Calls Tryd.prog 60 #[.int .u8 a0] w fun e w' => e = .returned (.int .u8 r) ∧ Drawn0 w w':=by
 have H : (if a0 = 48 then (some 49) else (some 48)) = some r:=h
 clear h
 by_cases c2 : a0 = 48
 ·rw [if_pos c2] at H
  have c2b0 : (a0 == 48) = true:=beq_iff_eq.mpr c2
  have c2b1 : (a0 != 48) = false:=bne_eq_false_iff_eq.mpr c2
  clear c2
  obtain rfl:=Option.some.inj H
  go_enter Tryd.func60,Tryd.ntmps60
  go_wp2
  go_ret
  exact ⟨by first | rfl | (simp;done) | (simp [*];done),by repeat (first | exact Drawn0.refl _ | apply Drawn0.step)⟩
 ·rw [if_neg c2] at H
  have c2b0 : (a0 == 48) = false:=beq_eq_false_iff_ne.mpr c2
  have c2b1 : (a0 != 48) = true:=bne_iff_ne.mpr c2
  obtain rfl:=Option.some.inj H
  go_enter Tryd.func60,Tryd.ntmps60
  go_wp2
  go_ret
  exact ⟨by first | rfl | (simp;done) | (simp [*];done),by repeat (first | exact Drawn0.refl _ | apply Drawn0.step)⟩
mutual
def spec_l1genText.l0 : Nat → Int → List Int → Int → List Int → Int → Int → Option (ByteArray × Int × Int)
 | 0,_,_,_,_,_,_ => none
 | k + 1,x5,x6,x7,x1000,x1001,x1002 => if (x6.length : Int) < x5 then ((spec_l1src_n.f x1000 x1001 x1002 7).bind fun bt120 => ((spec_l1src_n.f x1000 bt120.2.1 bt120.2.2 3).bind fun bt123 => (if bt123.1 > 0 then ((spec_l1src_n.f x1000 bt123.2.1 bt123.2.2 2).bind fun bt126 => (spec_l1genText.j1 k x5 x6 x7 (wrap64 (1 + bt126.1)) x1000 bt126.2.1 bt126.2.2)) else (spec_l1genText.j1 k x5 x6 x7 (wrap64 (1 + bt120.1)) x1000 bt123.2.1 bt123.2.2)))) else (some (strOfNums x6,x1001,x1002))
def spec_l1genText.j1 : Nat → Int → List Int → Int → Int → List Int → Int → Int → Option (ByteArray × Int × Int)
 | 0,_,_,_,_,_,_,_ => none
 | k + 1,x5,x6,x7,x8,x1000,x1001,x1002 => spec_l1genText.l1 k x5 x6 x7 x8 0 x1000 x1001 x1002
def spec_l1genText.l1 : Nat → Int → List Int → Int → Int → Int → List Int → Int → Int → Option (ByteArray × Int × Int)
 | 0,_,_,_,_,_,_,_,_ => none
 | k + 1,x5,x6,x7,x8,x9,x1000,x1001,x1002 => if x9 < x8 then (if (x6.length : Int) < x5 then (if x6.length < 140737488355328 then (spec_l1genText.l1 k x5 (x6 ++ [x7]) x7 x8 (wrap64 (x9 + 1)) x1000 x1001 x1002) else (none)) else ((spec_l1other.f x7).bind fun t132 => (spec_l1genText.l0 k x5 x6 t132 x1000 x1001 x1002))) else ((spec_l1other.f x7).bind fun t133 => (spec_l1genText.l0 k x5 x6 t133 x1000 x1001 x1002))
end
def spec_l1genText.f (k : Nat) (s0_0 : List Int) (s0_1 : Int) (s0_2 : Int) (a1 : Int) : Option (ByteArray × Int × Int):=(spec_l1src_n.f s0_0 s0_1 s0_2 (wrap64 (a1 + 1))).bind fun bt114 => (spec_l1genText.l0 k bt114.1 (([] : List Int)) 48 s0_0 bt114.2.1 bt114.2.2)
set_option maxHeartbeats 8000000 in
set_option maxRecDepth 100000 in
theorem spec_l1genText.calls (k : Nat) (g : Nat) (s0_0 : List Int) (s0_1 : Int) (s0_2 : Int) (a1 : Int) (r1 : ByteArray) (r2 : Int) (r3 : Int) (w0 w : World) (hI : IsS80 w0 w g s0_0 s0_1 s0_2) (hB : Below w0.heap.size w0 w) (h : spec_l1genText.f k s0_0 s0_1 s0_2 a1 = some (r1,r2,r3)) :
  Calls Tryd.prog 41 #[.pointer (some ⟨g,0,none⟩), .int .i64 a1] w fun e w' => e = .returned (.string r1) ∧ IsS80 w0 w' g s0_0 r2 r3 ∧ Below w0.heap.size w0 w' ∧ KeepBut w w' g none:=by
 have HI0:=Aside0.mk hI
 have HK:=Aside0.mk (KeepBut.refl w g none)
 have HL:=Aside0.mk hB.size
 clear hI
 have HW0:=Aside0.mk hB.size
 have HB:=Aside0.mk hB
 clear hB
 have H : ((spec_l1src_n.f s0_0 s0_1 s0_2 (wrap64 (a1 + 1))).bind fun bt114 => (spec_l1genText.l0 k bt114.1 (([] : List Int)) 48 s0_0 bt114.2.1 bt114.2.2)) = some (r1,r2,r3):=h
 clear h
 replace H:=Option.bind_eq_some_iff.mp H
 obtain ⟨⟨t114,t115,t116⟩,A30,H⟩:=H
 replace H : (spec_l1genText.l0 k t114 (([] : List Int)) 48 s0_0 t115 t116) = some (r1,r2,r3):=H
 have A3:=Aside0.mk A30
 clear A30
 obtain ⟨y117,hy117⟩ : ∃ y_ : List Int,y_ = (([] : List Int)):=⟨_,rfl⟩
 replace H : (spec_l1genText.l0 k t114 y117 48 s0_0 t115 t116) = some (r1,r2,r3):=by first | (rw [hy117];with_reducible exact H) | (have H2_:=(Option.bind_some _ _).symm.trans H;rw [hy117];with_reducible exact H2_) | (have H2_:=(Option.bind_some _ _).symm.trans H;with_reducible exact H2_) | with_reducible exact H | (rw [hy117];exact H) | exact H
 have Ny117:=Aside0.mk hy117
 clear hy117
 have H':=Aside0.mk H
 clear H
 go_enter Tryd.func41,Tryd.ntmps41
 go_wp2_with (first | ((with_reducible refine gate_callee (f:=38) rfl ?_);refine goesL_ (some 13) rfl rfl Tryd.func38 (by kernel_rfl) rfl #[.pointer (some ⟨g,0,none⟩), .int .i64 (wrap64 (a1 + 1))] rfl (by (try simp only [List.map_toArray,List.map_cons,List.map_nil]);first | done | rfl | (simp only [List.length_drop,List.length_take];rfl)) ?_;(with_reducible refine (spec_l1src_n.calls g s0_0 s0_1 s0_2 (wrap64 (a1 + 1)) t114 t115 t116 w0 _ ?side1 ?side2 A3.out).mono ?_);(case side1 => repeat (first | (with_reducible first | exact HI0.out | apply IsS80.alloc | apply IsS80.drewN | apply IsS80.drew | apply IsS80.set_1 | apply IsS80.set_2) | exact HI0.out));(case side2 => repeat (first | (with_reducible first | exact HB.out | apply below_alloc | apply pw_below_drewN | apply below_drew1 | refine below_set ?_ (IsS80.ge HI0.out)) | exact HB.out));rintro e w4 ⟨rfl,hi,hb,hk⟩;refine ⟨_,rfl, ?_⟩;have n0_:=Aside0.mk (KeepBut.trans (by repeat (first | (with_reducible first | exact HK.out | apply KeepBut.set_ | apply keep_drewN | apply keep_drew | apply keep_alloc) | exact HK.out)) hk (.inl rfl));have n1_:=Aside0.mk (hb);have n2_:=Aside0.mk (hi);clear HK;clear HB;clear HI0;have HK:=n0_;have HB:=n1_;have HI0:=n2_;clear n0_ n1_ n2_;(try clear hb);(try clear hb2);(try clear hk);(try clear hi)) | ((with_reducible refine gate_dst (N:=14) rfl ?_);(try (refine gate_guard (by rfl) ?_;dsimp only));refine Kd.R_lit (Kd.int .u8) _ 5 ?hg (N:=14) ?hd (xs:=([] : List Int)) (inner := []) (ok:=fun _ => True) (okp:=fun _ => True) ?hr ?hp (fun _ hk => hk) trivial (Below.refl _ _) (Nat.le_refl _) (by simp) ?_;(case hd => rfl);(case hg => rfl);(case hr => first | (go_simp;done) | (go_simp;rfl));(case hp => exact (Reps.none _ _));intro v118 w5 ho6 hb hg_ hnew_;clear hg_ hnew_;(first | rw [← Ny117.out] at ho6 | (simp only [Int.reduceToNat] at ho6;rw [← Ny117.out] at ho6));have n0_:=Aside0.mk (Kd.R_lower ho6 (keep_size (w:=w) (g:=g) (row:=none) (by repeat (first | (with_reducible first | exact HK.out | apply KeepBut.set_ | apply keep_drewN | apply keep_drew | apply keep_alloc) | exact HK.out))));have n1_:=Aside0.mk (IsS80.below (by repeat (first | (with_reducible first | exact HI0.out | apply IsS80.alloc | apply IsS80.drewN | apply IsS80.drew | apply IsS80.set_1 | apply IsS80.set_2) | exact HI0.out)) hb);have n2_:=Aside0.mk (KeepBut.trans (by repeat (first | (with_reducible first | exact HK.out | apply KeepBut.set_ | apply keep_drewN | apply keep_drew | apply keep_alloc) | exact HK.out)) (KeepBut.of_below hb g none) (.inl rfl));have n3_:=Aside0.mk (below_step (by repeat (first | (with_reducible first | exact HB.out | apply below_alloc | apply pw_below_drewN | apply below_drew1 | refine below_set ?_ (IsS80.ge HI0.out)) | exact HB.out)) hb);clear HI0;clear HK;clear HB;have HO119:=n0_;have HI0:=n1_;have HK:=n2_;have HB:=n3_;clear n0_ n1_ n2_ n3_;clear hb ho6))
 go_loopg [6,7] k (fun kq v6 v7 w' => ∃ (x6_1 : List Int) (x7_1 : Int) (x1001_1 : Int) (x1002_1 : Int),v7 = .int .u8 x7_1 ∧ Aside0 (spec_l1genText.l0 kq t114 x6_1 x7_1 s0_0 x1001_1 x1002_1 = some (r1,r2,r3)) ∧ Aside0 (kq ≤ k) ∧ Aside0 (Kd.R (Kd.int .u8) 5 w' w.heap.size (fun _ => True) v6 x6_1) ∧ Aside0 (IsS80 w0 w' g s0_0 x1001_1 x1002_1) ∧ Aside0 (KeepBut w w' g none) ∧ Aside0 (Below w0.heap.size w0 w'))
 case atStart => exact ⟨(y117),(48),(t115),(t116),(by first | rfl | (simp;done) | (simp [*];done)),H',⟨Nat.le_refl _⟩,⟨by (with_reducible repeat (first | apply Kd.R_alloc | apply Kd.R_drewN | apply Kd.R_drew));exact HO119.out⟩,⟨by repeat (first | (with_reducible first | exact HI0.out | apply IsS80.alloc | apply IsS80.drewN | apply IsS80.drew | apply IsS80.set_1 | apply IsS80.set_2) | exact HI0.out)⟩,⟨by repeat (first | (with_reducible first | exact HK.out | apply KeepBut.set_ | apply keep_drewN | apply keep_drew | apply keep_alloc) | exact HK.out)⟩,⟨by repeat (first | (with_reducible first | exact HB.out | apply below_alloc | apply pw_below_drewN | apply below_drew1 | refine below_set ?_ (IsS80.ge HI0.out)) | exact HB.out)⟩⟩
 case round =>
  clear H'
  try clear p2
  try clear c3
  try clear c4
  try clear p6
  obtain ⟨x6_1,x7_1,x1001_1,x1002_1,rfl,HA,HK1,HO_6,HI0,HK,HB⟩:=hrel
  cases gk with
  | zero => exact absurd HA.out (by simp [spec_l1genText.l0])
  | succ k1 =>
   have H:=HA.out
   clear HA
   simp only [spec_l1genText.l0] at H
   by_cases c7 : (x6_1.length : Int) < t114
   ·rw [if_pos c7] at H
    have c7b0 : decide ((x6_1.length : Int) < t114) = true:=decide_eq_true c7
    clear c7
    replace H:=Option.bind_eq_some_iff.mp H
    obtain ⟨⟨t120,t121,t122⟩,A80,H⟩:=H
    replace H : ((spec_l1src_n.f s0_0 t121 t122 3).bind fun bt123 => (if bt123.1 > 0 then ((spec_l1src_n.f s0_0 bt123.2.1 bt123.2.2 2).bind fun bt126 => (spec_l1genText.j1 k1 t114 x6_1 x7_1 (wrap64 (1 + bt126.1)) s0_0 bt126.2.1 bt126.2.2)) else (spec_l1genText.j1 k1 t114 x6_1 x7_1 (wrap64 (1 + t120)) s0_0 bt123.2.1 bt123.2.2))) = some (r1,r2,r3):=H
    have A8:=Aside0.mk A80
    clear A80
    replace H:=Option.bind_eq_some_iff.mp H
    obtain ⟨⟨t123,t124,t125⟩,A90,H⟩:=H
    replace H : (if t123 > 0 then ((spec_l1src_n.f s0_0 t124 t125 2).bind fun bt126 => (spec_l1genText.j1 k1 t114 x6_1 x7_1 (wrap64 (1 + bt126.1)) s0_0 bt126.2.1 bt126.2.2)) else (spec_l1genText.j1 k1 t114 x6_1 x7_1 (wrap64 (1 + t120)) s0_0 t124 t125)) = some (r1,r2,r3):=H
    have A9:=Aside0.mk A90
    clear A90
    have HC10:=Aside0.mk H
    clear H
    obtain ⟨Ao11,co11,eo11⟩:=Kd.R_slice HO_6.out
    subst eo11
    go_upto_if 24 with (first | ((with_reducible refine gate_callee (f:=38) rfl ?_);refine goesL_ (some 20) rfl rfl Tryd.func38 (by kernel_rfl) rfl #[.pointer (some ⟨g,0,none⟩), .int .i64 7] rfl (by (try simp only [List.map_toArray,List.map_cons,List.map_nil]);first | done | rfl | (simp only [List.length_drop,List.length_take];rfl)) ?_;(with_reducible refine (spec_l1src_n.calls g s0_0 x1001_1 x1002_1 7 t120 t121 t122 w0 _ ?side1 ?side2 A8.out).mono ?_);(case side1 => repeat (first | (with_reducible first | exact HI0.out | apply IsS80.alloc | apply IsS80.drewN | apply IsS80.drew | apply IsS80.set_1 | apply IsS80.set_2) | exact HI0.out));(case side2 => repeat (first | (with_reducible first | exact HB.out | apply below_alloc | apply pw_below_drewN | apply below_drew1 | refine below_set ?_ (IsS80.ge HI0.out)) | exact HB.out));rintro e w12 ⟨rfl,hi,hb,hk⟩;refine ⟨_,rfl, ?_⟩;have n0_:=Aside0.mk (Kd.R_mono (Kd.R_keep (IsS80.apart (show IsS80 w0 _ g s0_0 x1001_1 x1002_1 from by repeat (first | (with_reducible first | exact HI0.out | apply IsS80.alloc | apply IsS80.drewN | apply IsS80.drew | apply IsS80.set_1 | apply IsS80.set_2) | exact HI0.out)) (by (with_reducible repeat (first | apply Kd.R_alloc | apply Kd.R_drewN | apply Kd.R_drew));exact HO_6.out) (by decide)) hk (fun _ h => h.2)) (fun _ h => h.1));have n1_:=Aside0.mk (KeepBut.trans (by repeat (first | (with_reducible first | exact HK.out | apply KeepBut.set_ | apply keep_drewN | apply keep_drew | apply keep_alloc) | exact HK.out)) hk (.inl rfl));have n2_:=Aside0.mk (hb);have n3_:=Aside0.mk (hi);clear HO_6;clear HK;clear HB;clear HI0;have HO_6:=n0_;have HK:=n1_;have HB:=n2_;have HI0:=n3_;clear n0_ n1_ n2_ n3_;(try clear hb);(try clear hb2);(try clear hk);(try clear hi)) | ((with_reducible refine gate_callee (f:=38) rfl ?_);refine goesL_ (some 23) rfl rfl Tryd.func38 (by kernel_rfl) rfl #[.pointer (some ⟨g,0,none⟩), .int .i64 3] rfl (by (try simp only [List.map_toArray,List.map_cons,List.map_nil]);first | done | rfl | (simp only [List.length_drop,List.length_take];rfl)) ?_;(with_reducible refine (spec_l1src_n.calls g s0_0 t121 t122 3 t123 t124 t125 w0 _ ?side1 ?side2 A9.out).mono ?_);(case side1 => repeat (first | (with_reducible first | exact HI0.out | apply IsS80.alloc | apply IsS80.drewN | apply IsS80.drew | apply IsS80.set_1 | apply IsS80.set_2) | exact HI0.out));(case side2 => repeat (first | (with_reducible first | exact HB.out | apply below_alloc | apply pw_below_drewN | apply below_drew1 | refine below_set ?_ (IsS80.ge HI0.out)) | exact HB.out));rintro e w13 ⟨rfl,hi,hb,hk⟩;refine ⟨_,rfl, ?_⟩;have n0_:=Aside0.mk (Kd.R_mono (Kd.R_keep (IsS80.apart (show IsS80 w0 _ g s0_0 t121 t122 from by repeat (first | (with_reducible first | exact HI0.out | apply IsS80.alloc | apply IsS80.drewN | apply IsS80.drew | apply IsS80.set_1 | apply IsS80.set_2) | exact HI0.out)) (by (with_reducible repeat (first | apply Kd.R_alloc | apply Kd.R_drewN | apply Kd.R_drew));exact HO_6.out) (by decide)) hk (fun _ h => h.2)) (fun _ h => h.1));have n1_:=Aside0.mk (KeepBut.trans (by repeat (first | (with_reducible first | exact HK.out | apply KeepBut.set_ | apply keep_drewN | apply keep_drew | apply keep_alloc) | exact HK.out)) hk (.inl rfl));have n2_:=Aside0.mk (hb);have n3_:=Aside0.mk (hi);clear HO_6;clear HK;clear HB;clear HI0;have HO_6:=n0_;have HK:=n1_;have HB:=n2_;have HI0:=n3_;clear n0_ n1_ n2_ n3_;(try clear hb);(try clear hb2);(try clear hk);(try clear hi)))
    (try simp only [Act.put,List.setIfInBounds_toArray,List.set_cons_zero,List.set_cons_succ])
    go_cut [8] (fun v8 wc => ∃ (kq : Nat) (x8_9 : Int) (x1001_9 : Int) (x1002_9 : Int),v8 = .int .i64 x8_9 ∧ Aside0 (spec_l1genText.j1 kq t114 x6_1 x7_1 x8_9 s0_0 x1001_9 x1002_9 = some (r1,r2,r3)) ∧ Aside0 (kq ≤ k1) ∧ Aside0 (Kd.R (Kd.int .u8) 5 wc w.heap.size (fun _ => True) (.slice Ao11 x6_1.length co11) x6_1) ∧ Aside0 (IsS80 w0 wc g s0_0 x1001_9 x1002_9) ∧ Aside0 (KeepBut w wc g none) ∧ Aside0 (Below w0.heap.size w0 wc))
    case first =>
     have H:=HC10.out
     clear HC10
     by_cases c14 : t123 > 0
     ·rw [if_pos c14] at H
      have c14b0 : decide (0 < t123) = true:=decide_eq_true c14
      clear c14
      (first | rw [c14b0] | (simp only [i64_w,i32_w];rw [c14b0]) | skip)
      replace H:=Option.bind_eq_some_iff.mp H
      obtain ⟨⟨t126,t127,t128⟩,A150,H⟩:=H
      replace H : (spec_l1genText.j1 k1 t114 x6_1 x7_1 (wrap64 (1 + t126)) s0_0 t127 t128) = some (r1,r2,r3):=H
      have A15:=Aside0.mk A150
      clear A150
      have H':=Aside0.mk H
      clear H
      go_wp2_with (first | ((with_reducible refine gate_callee (f:=38) rfl ?_);refine goesL_ (some 26) rfl rfl Tryd.func38 (by kernel_rfl) rfl #[.pointer (some ⟨g,0,none⟩), .int .i64 2] rfl (by (try simp only [List.map_toArray,List.map_cons,List.map_nil]);first | done | rfl | (simp only [List.length_drop,List.length_take];rfl)) ?_;(with_reducible refine (spec_l1src_n.calls g s0_0 t124 t125 2 t126 t127 t128 w0 _ ?side1 ?side2 A15.out).mono ?_);(case side1 => repeat (first | (with_reducible first | exact HI0.out | apply IsS80.alloc | apply IsS80.drewN | apply IsS80.drew | apply IsS80.set_1 | apply IsS80.set_2) | exact HI0.out));(case side2 => repeat (first | (with_reducible first | exact HB.out | apply below_alloc | apply pw_below_drewN | apply below_drew1 | refine below_set ?_ (IsS80.ge HI0.out)) | exact HB.out));rintro e w16 ⟨rfl,hi,hb,hk⟩;refine ⟨_,rfl, ?_⟩;have n0_:=Aside0.mk (Kd.R_mono (Kd.R_keep (IsS80.apart (show IsS80 w0 _ g s0_0 t124 t125 from by repeat (first | (with_reducible first | exact HI0.out | apply IsS80.alloc | apply IsS80.drewN | apply IsS80.drew | apply IsS80.set_1 | apply IsS80.set_2) | exact HI0.out)) (by (with_reducible repeat (first | apply Kd.R_alloc | apply Kd.R_drewN | apply Kd.R_drew));exact HO_6.out) (by decide)) hk (fun _ h => h.2)) (fun _ h => h.1));have n1_:=Aside0.mk (KeepBut.trans (by repeat (first | (with_reducible first | exact HK.out | apply KeepBut.set_ | apply keep_drewN | apply keep_drew | apply keep_alloc) | exact HK.out)) hk (.inl rfl));have n2_:=Aside0.mk (hb);have n3_:=Aside0.mk (hi);clear HO_6;clear HK;clear HB;clear HI0;have HO_6:=n0_;have HK:=n1_;have HB:=n2_;have HI0:=n3_;clear n0_ n1_ n2_ n3_;(try clear hb);(try clear hb2);(try clear hk);(try clear hi)))
      go_meet
      case rel => exact ⟨_,(wrap64 (1 + t126)),(t127),(t128),(by first | rfl | (simp;done) | (simp [*];done)),H',⟨by have:=HK1.out;first | omega | exact Nat.le_refl _⟩,⟨by (with_reducible repeat (first | apply Kd.R_alloc | apply Kd.R_drewN | apply Kd.R_drew));exact HO_6.out⟩,⟨by repeat (first | (with_reducible first | exact HI0.out | apply IsS80.alloc | apply IsS80.drewN | apply IsS80.drew | apply IsS80.set_1 | apply IsS80.set_2) | exact HI0.out)⟩,⟨by repeat (first | (with_reducible first | exact HK.out | apply KeepBut.set_ | apply keep_drewN | apply keep_drew | apply keep_alloc) | exact HK.out)⟩,⟨by repeat (first | (with_reducible first | exact HB.out | apply below_alloc | apply pw_below_drewN | apply below_drew1 | refine below_set ?_ (IsS80.ge HI0.out)) | exact HB.out)⟩⟩
     ·rw [if_neg c14] at H
      have c14b0 : decide (0 < t123) = false:=decide_eq_false c14
      clear c14
      (first | rw [c14b0] | (simp only [i64_w,i32_w];rw [c14b0]) | skip)
      have H':=Aside0.mk H
      clear H
      go_wp2
      go_meet
      case rel => exact ⟨_,(wrap64 (1 + t120)),(t124),(t125),(by first | rfl | (simp;done) | (simp [*];done)),H',⟨by have:=HK1.out;first | omega | exact Nat.le_refl _⟩,⟨by (with_reducible repeat (first | apply Kd.R_alloc | apply Kd.R_drewN | apply Kd.R_drew));exact HO_6.out⟩,⟨by repeat (first | (with_reducible first | exact HI0.out | apply IsS80.alloc | apply IsS80.drewN | apply IsS80.drew | apply IsS80.set_1 | apply IsS80.set_2) | exact HI0.out)⟩,⟨by repeat (first | (with_reducible first | exact HK.out | apply KeepBut.set_ | apply keep_drewN | apply keep_drew | apply keep_alloc) | exact HK.out)⟩,⟨by repeat (first | (with_reducible first | exact HB.out | apply below_alloc | apply pw_below_drewN | apply below_drew1 | refine below_set ?_ (IsS80.ge HI0.out)) | exact HB.out)⟩⟩
    case rest =>
     clear HC10
     try clear c1
     try clear p2
     try clear c3
     try clear c4
     try clear p6
     try clear c7
     try clear c7b0
     try clear c14
     try clear c14b0
     try clear p2
     try clear p6
     obtain ⟨kq,x8_9,x1001_9,x1002_9,rfl,HA,HJ9,HO_6,HI0,HK,HB⟩:=hcut
     cases kq with
     | zero => exact absurd HA.out (by simp [spec_l1genText.j1])
     | succ kj9 =>
      have H:=HA.out
      clear HA
      simp only [spec_l1genText.j1] at H
      have H':=Aside0.mk H
      clear H
      go_wp2
      go_loopg [6,9] kj9 (fun kq v6 v9 w' => ∃ (x6_3 : List Int) (x9_3 : Int),v9 = .int .i64 x9_3 ∧ Aside0 (spec_l1genText.l1 kq t114 x6_3 x7_1 x8_9 x9_3 s0_0 x1001_9 x1002_9 = some (r1,r2,r3)) ∧ Aside0 (kq ≤ kj9) ∧ Aside0 (Kd.R (Kd.int .u8) 5 w' w.heap.size (fun _ => True) v6 x6_3) ∧ Aside0 (IsS80 w0 w' g s0_0 x1001_9 x1002_9) ∧ Aside0 (KeepBut w w' g none) ∧ Aside0 (Below w0.heap.size w0 w'))
      case atStart => exact ⟨(x6_1),(0),(by first | rfl | (simp;done) | (simp [*];done)),H',⟨Nat.le_refl _⟩,⟨by (with_reducible repeat (first | apply Kd.R_alloc | apply Kd.R_drewN | apply Kd.R_drew));exact HO_6.out⟩,⟨by repeat (first | (with_reducible first | exact HI0.out | apply IsS80.alloc | apply IsS80.drewN | apply IsS80.drew | apply IsS80.set_1 | apply IsS80.set_2) | exact HI0.out)⟩,⟨by repeat (first | (with_reducible first | exact HK.out | apply KeepBut.set_ | apply keep_drewN | apply keep_drew | apply keep_alloc) | exact HK.out)⟩,⟨by repeat (first | (with_reducible first | exact HB.out | apply below_alloc | apply pw_below_drewN | apply below_drew1 | refine below_set ?_ (IsS80.ge HI0.out)) | exact HB.out)⟩⟩
      case round =>
       clear H'
       try clear c1
       try clear p2
       try clear c3
       try clear c4
       try clear p6
       try clear c7
       try clear c7b0
       try clear c14
       try clear c14b0
       try clear p2
       try clear p6
       obtain ⟨x6_3,x9_3,rfl,HA,HK3,HO_6,HI0,HK,HB⟩:=hrel
       cases gk with
       | zero => exact absurd HA.out (by simp [spec_l1genText.l1])
       | succ k3 =>
        have H:=HA.out
        clear HA
        simp only [spec_l1genText.l1] at H
        by_cases c17 : x9_3 < x8_9
        ·rw [if_pos c17] at H
         have c17b0 : decide (x9_3 < x8_9) = true:=decide_eq_true c17
         clear c17
         by_cases c18 : (x6_3.length : Int) < t114
         ·rw [if_pos c18] at H
          have c18b0 : decide ((x6_3.length : Int) < t114) = true:=decide_eq_true c18
          clear c18
          by_cases c19 : x6_3.length < 140737488355328
          ·rw [if_pos c19] at H
           have LMc19:=Aside0.mk c19
           clear c19
           obtain ⟨y129,hy129⟩ : ∃ y_ : List Int,y_ = (x6_3 ++ [x7_1]):=⟨_,rfl⟩
           replace H : (spec_l1genText.l1 k3 t114 y129 x7_1 x8_9 (wrap64 (x9_3 + 1)) s0_0 x1001_9 x1002_9) = some (r1,r2,r3):=by first | (rw [hy129];with_reducible exact H) | (have H2_:=(Option.bind_some _ _).symm.trans H;rw [hy129];with_reducible exact H2_) | (have H2_:=(Option.bind_some _ _).symm.trans H;with_reducible exact H2_) | with_reducible exact H | (rw [hy129];exact H) | exact H
           have Ny129:=Aside0.mk hy129
           clear hy129
           have H':=Aside0.mk H
           clear H
           obtain ⟨Ao20,co20,eo20⟩:=Kd.R_slice HO_6.out
           subst eo20
           go_wp2_with (first | ((with_reducible refine gate_builtin (b := .append) (xs := #[.tmp 39, .tmp 41]) rfl ?_);(try (refine gate_guard (by rfl) ?_;dsimp only));at_builtin;refine Kd.R_append (Kd.int .u8) w.heap.size rfl (.tmp 39) (.tmp 41) 23 5 (.int .u8 0) 1 rfl Tryd.underlying23 info5 rfl (by decide) (by omega) (.slice Ao20 x6_3.length co20) x6_3 x7_1 [.int .u8 x7_1] (fun _ => True) (fun _ => False) rfl rfl ?aP (fun _ hk => hk.elim) ?aF ?aO (Below.refl _ _) ?aS ?aL ?_;(case aP => exact rfl);(case aF => exact (fun _ _ => trivial));(case aO => exact (by (with_reducible repeat (first | apply Kd.R_alloc | apply Kd.R_drewN | apply Kd.R_drew));exact HO_6.out));(case aS => exact (keep_size (w:=w) (g:=g) (row:=none) (by repeat (first | (with_reducible first | exact HK.out | apply KeepBut.set_ | apply keep_drewN | apply keep_drew | apply keep_alloc) | exact HK.out))));(case aL => have:=LMc19.out;omega);intro v130 w21 ho hb hg hat;rw [← Ny129.out] at ho;have n0_:=Aside0.mk (IsS80.grown (by repeat (first | (with_reducible first | exact HI0.out | apply IsS80.alloc | apply IsS80.drewN | apply IsS80.drew | apply IsS80.set_1 | apply IsS80.set_2) | exact HI0.out)) hg (IsS80.own_ne HI0.out HO_6.out (by decide)));have n1_:=Aside0.mk (below_weaken (by repeat (first | (with_reducible first | exact HB.out | apply below_alloc | apply pw_below_drewN | apply below_drew1 | refine below_set ?_ (IsS80.ge HI0.out)) | exact HB.out)) HL.out hb);have n2_:=Aside0.mk (KeepBut.trans (by repeat (first | (with_reducible first | exact HK.out | apply KeepBut.set_ | apply keep_drewN | apply keep_drew | apply keep_alloc) | exact HK.out)) (KeepBut.of_grown hg g) (Kd.R_base2 HO_6.out));have n3_:=Aside0.mk (ho);clear HI0;clear HB;clear HK;clear HO_6;have HI0:=n0_;have HB:=n1_;have HK:=n2_;have HO131:=n3_;clear n0_ n1_ n2_ n3_;clear ho hb hg hat))
           go_roundg k3
           case measure => have:=HK1.out;have:=HJ9.out;have:=HK3.out;omega
           case rel => exact ⟨(y129),(wrap64 (x9_3 + 1)),(by first | rfl | (simp;done) | (simp [*];done)),H',⟨by have:=HK1.out;have:=HJ9.out;have:=HK3.out;omega⟩,⟨by (with_reducible repeat (first | apply Kd.R_alloc | apply Kd.R_drewN | apply Kd.R_drew));exact HO131.out⟩,⟨by repeat (first | (with_reducible first | exact HI0.out | apply IsS80.alloc | apply IsS80.drewN | apply IsS80.drew | apply IsS80.set_1 | apply IsS80.set_2) | exact HI0.out)⟩,⟨by repeat (first | (with_reducible first | exact HK.out | apply KeepBut.set_ | apply keep_drewN | apply keep_drew | apply keep_alloc) | exact HK.out)⟩,⟨by repeat (first | (with_reducible first | exact HB.out | apply below_alloc | apply pw_below_drewN | apply below_drew1 | refine below_set ?_ (IsS80.ge HI0.out)) | exact HB.out)⟩⟩
          ·rw [if_neg c19] at H
           exact absurd H (by simp)
         ·rw [if_neg c18] at H
          have c18b0 : decide ((x6_3.length : Int) < t114) = false:=decide_eq_false c18
          clear c18
          replace H:=Option.bind_eq_some_iff.mp H
          obtain ⟨t132,A220,H⟩:=H
          replace H : (spec_l1genText.l0 k3 t114 x6_3 t132 s0_0 x1001_9 x1002_9) = some (r1,r2,r3):=H
          have A22:=Aside0.mk A220
          clear A220
          have H':=Aside0.mk H
          clear H
          obtain ⟨Ao23,co23,eo23⟩:=Kd.R_slice HO_6.out
          subst eo23
          go_wp2_with (first | ((with_reducible refine gate_callee (f:=60) rfl ?_);refine goesL_ (some 44) rfl rfl Tryd.func60 (by kernel_rfl) rfl #[.int .u8 x7_1] rfl (by (try simp only [List.map_toArray,List.map_cons,List.map_nil]);first | done | rfl | (simp only [List.length_drop,List.length_take];rfl)) ?_;(with_reducible refine (spec_l1other.calls x7_1 t132 _ A22.out).mono ?_);rintro e w' ⟨rfl,⟨nd,rfl⟩⟩;refine ⟨_,rfl, ?_⟩))
          go_roundg k3
          case measure => have:=HK1.out;have:=HJ9.out;have:=HK3.out;omega
          case rel => exact ⟨(x6_3),(t132),(x1001_9),(x1002_9),(by first | rfl | (simp;done) | (simp [*];done)),H',⟨by have:=HK1.out;have:=HJ9.out;have:=HK3.out;omega⟩,⟨by (with_reducible repeat (first | apply Kd.R_alloc | apply Kd.R_drewN | apply Kd.R_drew));exact HO_6.out⟩,⟨by repeat (first | (with_reducible first | exact HI0.out | apply IsS80.alloc | apply IsS80.drewN | apply IsS80.drew | apply IsS80.set_1 | apply IsS80.set_2) | exact HI0.out)⟩,⟨by repeat (first | (with_reducible first | exact HK.out | apply KeepBut.set_ | apply keep_drewN | apply keep_drew | apply keep_alloc) | exact HK.out)⟩,⟨by repeat (first | (with_reducible first | exact HB.out | apply below_alloc | apply pw_below_drewN | apply below_drew1 | refine below_set ?_ (IsS80.ge HI0.out)) | exact HB.out)⟩⟩
        ·rw [if_neg c17] at H
         have c17b0 : decide (x9_3 < x8_9) = false:=decide_eq_false c17
         clear c17
         replace H:=Option.bind_eq_some_iff.mp H
         obtain ⟨t133,A240,H⟩:=H
         replace H : (spec_l1genText.l0 k3 t114 x6_3 t133 s0_0 x1001_9 x1002_9) = some (r1,r2,r3):=H
         have A24:=Aside0.mk A240
         clear A240
         have H':=Aside0.mk H
         clear H
         go_wp2_with (first | ((with_reducible refine gate_callee (f:=60) rfl ?_);refine goesL_ (some 44) rfl rfl Tryd.func60 (by kernel_rfl) rfl #[.int .u8 x7_1] rfl (by (try simp only [List.map_toArray,List.map_cons,List.map_nil]);first | done | rfl | (simp only [List.length_drop,List.length_take];rfl)) ?_;(with_reducible refine (spec_l1other.calls x7_1 t133 _ A24.out).mono ?_);rintro e w' ⟨rfl,⟨nd,rfl⟩⟩;refine ⟨_,rfl, ?_⟩))
         go_roundg k3
         case measure => have:=HK1.out;have:=HJ9.out;have:=HK3.out;omega
         case rel => exact ⟨(x6_3),(t133),(x1001_9),(x1002_9),(by first | rfl | (simp;done) | (simp [*];done)),H',⟨by have:=HK1.out;have:=HJ9.out;have:=HK3.out;omega⟩,⟨by (with_reducible repeat (first | apply Kd.R_alloc | apply Kd.R_drewN | apply Kd.R_drew));exact HO_6.out⟩,⟨by repeat (first | (with_reducible first | exact HI0.out | apply IsS80.alloc | apply IsS80.drewN | apply IsS80.drew | apply IsS80.set_1 | apply IsS80.set_2) | exact HI0.out)⟩,⟨by repeat (first | (with_reducible first | exact HK.out | apply KeepBut.set_ | apply keep_drewN | apply keep_drew | apply keep_alloc) | exact HK.out)⟩,⟨by repeat (first | (with_reducible first | exact HB.out | apply below_alloc | apply pw_below_drewN | apply below_drew1 | refine below_set ?_ (IsS80.ge HI0.out)) | exact HB.out)⟩⟩
   ·rw [if_neg c7] at H
    have c7b0 : decide ((x6_1.length : Int) < t114) = false:=decide_eq_false c7
    clear c7
    simp only [Option.some.injEq,Prod.mk.injEq] at H
    obtain ⟨rfl,rfl,rfl⟩:=H
    obtain ⟨Ao25,co25,eo25⟩:=Kd.R_slice HO_6.out
    subst eo25
    have hcv26:=own_string (P:=Tryd.prog) Tryd.underlying23 Tryd.underlying5 Tryd.underlying9 (Kd.own_of_R HO_6.out)
    go_wp2
    go_ret
    exact ⟨by first | rfl | (simp [errW_none,errW_some] <;> rfl) | (simp [*,errW_none,errW_some] <;> rfl),by repeat (first | (with_reducible first | exact HI0.out | apply IsS80.alloc | apply IsS80.drewN | apply IsS80.drew | apply IsS80.set_1 | apply IsS80.set_2) | exact HI0.out),by repeat (first | (with_reducible first | exact HB.out | apply below_alloc | apply pw_below_drewN | apply below_drew1 | refine below_set ?_ (IsS80.ge HI0.out)) | exact HB.out),by repeat (first | (with_reducible first | exact HK.out | apply KeepBut.set_ | apply keep_drewN | apply keep_drew | apply keep_alloc) | exact HK.out)⟩
end Go.Proofs.YtdoclpgciadjaaaDoor.P
namespace Go.Proofs.YtdoclpgciadjaaaDoor.P
open Go Go.RowKit Go.Proofs.YtdoclpgciadjaaaDoorW.PrintWords
set_option linter.unusedVariables false
structure BRow (e : TypeId) (w : World) (g cap : Nat) (xs : List Int) : Prop where mk ::
 out : ∃ cur fz,w.heap[g]? = some (.cells cur e fz) ∧ cap ≤ fz.1 ∧ xs.length ≤ cap ∧ cap ≤ maxLen ∧ cur.size = cap ∧ cur.toList.take xs.length = nums .u8 xs
theorem BRow.new (w : World) (e : TypeId) (s : ByteArray) (hs : s.size ≤ maxLen) : BRow e (Lib.bytesWorld w e s) w.heap.size (grownCap w s.size 0 e) (bytesOf s):=by
 have h:=RowM.bytes w e s 0 (Nat.zero_le _) hs
 have hg:=grownCap_ge w s.size 0 e
 have hz : (Lib.bytesCells w e s).size = grownCap w s.size 0 e:=by simp [Lib.bytesCells];have : s.data.size = s.size:=rfl;omega
 refine ⟨_,_,Lib.bytesWorld_at_new w e s,by rw [hz];exact Nat.le_refl _,by rw [bytesOf_length];exact hg,grownCap_le_maxLen w s.size 0 e hs,hz, ?_⟩
 rw [bytesOf_length]
 unfold Lib.bytesCells nums bytesOf
 rw [Array.toList_append,List.take_append_of_le_length (by simp),List.take_of_length_le (by simp)]
 simp
theorem BRow.move {e : TypeId} {w w1 : World} {g cap : Nat} {xs : List Int} (h : BRow e w g cap xs) (hm : w1.heap[g]? = w.heap[g]?) : BRow e w1 g cap xs:=by
 obtain ⟨cur,fz,h1,r⟩:=h.out
 exact ⟨cur,fz,hm.trans h1,r⟩
theorem BRow.cell {e : TypeId} {w : World} {g cap : Nat} {xs : List Int} (h : BRow e w g cap xs) (i : Nat) (hi : i < xs.length) : w.cell? ⟨g,i,none⟩ = some (.int .u8 (rd xs (i : Int))) ∧ w.frozen? ⟨g,i,none⟩ = false:=by
 obtain ⟨cur,fz,hh,hfz,hlc,hcm,hcs,htk⟩:=h.out
 constructor
 ·have h1 : (nums .u8 xs)[i]? = some (.int .u8 (rd xs (i : Int))):=by simp [nums,List.getElem?_eq_getElem hi,rd]
  rw [← htk,List.getElem?_take_of_lt hi,Array.getElem?_toList] at h1
  simp only [World.cell?,hh]
  simpa using h1
 ·obtain ⟨lo,hi'⟩:=fz
  simp only [World.frozen?,hh]
  have hlo : cap ≤ lo:=hfz
  rw [decide_eq_false (show ¬ lo ≤ i by omega),Bool.false_and]
theorem BRow.set {e : TypeId} {w : World} {g cap : Nat} {xs : List Int} (h : BRow e w g cap xs) (i : Nat) (hi : i < xs.length) (x : Int) : BRow e (w.setCell ⟨g,i,none⟩ (.int .u8 x)) g cap (xs.set i x):=by
 obtain ⟨cur,fz,hh,hfz,hlc,hcm,hcs,htk⟩:=h.out
 refine ⟨cur.setIfInBounds i (.int .u8 x),fz, ?_,hfz,by rw [List.length_set];exact hlc,hcm,by simp [hcs], ?_⟩
 ·simp only [World.setCell,Array.getElem?_modify,hh]
  simp
 ·rw [List.length_set,Array.toList_setIfInBounds]
  have : nums .u8 (xs.set i x) = (nums .u8 xs).set i (.int .u8 x):=by simp [nums,List.map_set]
  rw [this, ← htk,List.take_set]
theorem BRow.string {P : Program} {w : World} {g cap : Nat} {src dst e' e : TypeId} {xs : List Int} {n : Nat} (hn : xs.length = n) (hs : P.underlying src = some (.slice e)) (he : P.underlying e = some (.int .u8)) (hd : P.underlying dst = some .string) (h : BRow e' w g cap xs) : (convert src dst (.slice (some ⟨g,0,none⟩) n cap)).run P w = .ok (.string (strOfNums xs)) w:=by
 obtain ⟨cur,fz,r⟩:=h.out
 subst hn
 exact RowM.string (base:=0) hs he hd (.inr ⟨g,cap,cur,fz,rfl,Nat.zero_le _,r⟩)
end Go.Proofs.YtdoclpgciadjaaaDoor.P
namespace Go.Proofs.YtdoclpgciadjaaaDoor.P
open Go.RowKit Go.Proofs.YtdoclpgciadjaaaDoorW.PrintWords Go.Proofs.YtdoclpgciadjaaaDoorW.PrintLast Go.Proofs.YtdoclpgciadjaaaDoorW.PrintMore
set_option linter.unusedVariables false
set_option linter.unusedSimpArgs false
def spec_l1spoil.f (s0_0 : List Int) (s0_1 : Int) (s0_2 : Int) (a1 : ByteArray) : Option (ByteArray × Int × Int):=if a1.size = 0 then some (a1,s0_1,s0_2) else if 10000000 < a1.size then none else (spec_l1src_n.f s0_0 s0_1 s0_2 (a1.size : Int)).bind fun b1 => (spec_l1src_n.f s0_0 b1.2.1 b1.2.2 4).bind fun b2 => (if 0 ≤ b1.1 ∧ b1.1 < a1.size then (if b2.1 = 0 then some (strOfNums ((bytesOf a1).set b1.1.toNat 120),b2.2.1,b2.2.2) else (spec_l1other.f (rd (bytesOf a1) b1.1)).bind fun c => some (strOfNums ((bytesOf a1).set b1.1.toNat c),b2.2.1,b2.2.2)) else none)
set_option maxRecDepth 100000 in
set_option maxHeartbeats 4000000 in
theorem spec_l1spoil.calls (g : Nat) (s0_0 : List Int) (s0_1 : Int) (s0_2 : Int) (a1 : ByteArray) (r1 : ByteArray) (r2 : Int) (r3 : Int) (w0 w : World) (hI : IsS80 w0 w g s0_0 s0_1 s0_2) (hB : Below w0.heap.size w0 w) (h : spec_l1spoil.f s0_0 s0_1 s0_2 a1 = some (r1,r2,r3)) :
  Calls Tryd.prog 56 #[.pointer (some ⟨g,0,none⟩), .string a1] w fun e w' => e = .returned (.string r1) ∧ IsS80 w0 w' g s0_0 r2 r3 ∧ Below w0.heap.size w0 w' ∧ KeepBut w w' g none:=by
 unfold spec_l1spoil.f at h
 have HI:=Lib.hid hI
 have HB:=Lib.hid hB
 by_cases c : a1.size = 0
 ·rw [if_pos c] at h
  have h:=Option.some.inj h
  obtain ⟨rfl,h2⟩:=Prod.mk.inj h
  obtain ⟨rfl,rfl⟩:=Prod.mk.inj h2
  clear hI hB h h2
  go_enter Tryd.func56,Tryd.ntmps56
  go_wp2_with (fail)
  go_ret
  exact ⟨rfl,HI.out,HB.out,KeepBut.refl _ _ _⟩
 ·rw [if_neg c] at h
  by_cases hz : 10000000 < a1.size
  ·rw [if_pos hz] at h;cases h
  rw [if_neg hz] at h
  have HZ : Hid (a1.size ≤ 10000000):=Lib.hid (by omega)
  obtain ⟨⟨i,p1,p2⟩,h1,h⟩:=Option.bind_eq_some_iff.1 h
  obtain ⟨⟨q,q1,q2⟩,h2,h⟩:=Option.bind_eq_some_iff.1 h
  have HN1:=Lib.hid h1
  have HN2:=Lib.hid h2
  simp only [] at h
  by_cases ci : 0 ≤ i ∧ i < (a1.size : Int)
  ·rw [if_pos ci] at h
   obtain ⟨j,rfl⟩ : ∃ j : Nat,i = (j : Int):=⟨i.toNat,by omega⟩
   have hj : j < a1.size:=by omega
   have hgl : g < w.heap.size:=by obtain ⟨_,_,hb,_⟩:=HI.out;exact (Array.getElem?_eq_some_iff.1 hb).1
   have HX : Hid (∃ x,(q = 0 → x = 120) ∧ (q ≠ 0 → spec_l1other.f (rd (bytesOf a1) (j : Int)) = some x) ∧ r1 = strOfNums ((bytesOf a1).set j x) ∧ r2 = q1 ∧ r3 = q2):=Lib.hid (by
    by_cases cq : q = 0
    ·rw [if_pos cq] at h
     have h:=Option.some.inj h
     obtain ⟨ha,h5⟩:=Prod.mk.inj h
     obtain ⟨hb,hc⟩:=Prod.mk.inj h5
     exact ⟨120,fun _ => rfl,fun hn => absurd cq hn,by rw [← ha,Int.toNat_natCast],hb.symm,hc.symm⟩
    ·rw [if_neg cq] at h
     obtain ⟨x,hx,h⟩:=Option.bind_eq_some_iff.1 h
     have h:=Option.some.inj h
     obtain ⟨ha,h5⟩:=Prod.mk.inj h
     obtain ⟨hb,hc⟩:=Prod.mk.inj h5
     exact ⟨x,fun hn => absurd hn cq,fun _ => hx,by rw [← ha,Int.toNat_natCast],hb.symm,hc.symm⟩)
   clear h h1 h2 hI hB ci
   have hcv:=Lib.run_convert_string_bytes (P:=Tryd.prog) w 9 23 5 a1 Tryd.underlying9 Tryd.underlying23 Tryd.underlying5
   have hne : ¬ ((a1.size : Int) = 0):=by omega
   go_enter Tryd.func56,Tryd.ntmps56
   go_wp2_with (fail)
   (refine (spec_l1src_n.calls g s0_0 s0_1 s0_2 _ (j : Int) p1 p2 w0 _ (HI.out.below (below_bytes (Below.refl _ _) (Nat.le_refl _) _ _)) (below_bytes HB.out HB.out.size _ _) HN1.out).mono ?_;rintro e w1 ⟨rfl,hi1,hb1,hk1⟩;have HZ1:=Lib.hid (Lib.bytesWorld_size w 5 a1);have HROW1 : Hid (BRow 5 w1 w.heap.size (grownCap w a1.size 0 5) (bytesOf a1)):=Lib.hid ((BRow.new w 5 a1 (by have:=HZ.out;unfold maxLen;omega)).move (hk1.2 _ (by have:=HZ1.out;omega) (by omega) (by simp)));have HI1:=Lib.hid hi1;have HB1:=Lib.hid hb1;have HK1 : Hid (KeepBut w w1 g none):=Lib.hid ⟨by have:=hk1.1;have:=HZ1.out;omega,fun k hk hg hn => (hk1.2 k (by have:=HZ1.out;omega) hg hn).trans (Lib.bytesWorld_at_old w 5 a1 k hk)⟩;clear hi1 hb1 hk1 hcv)
   go_wp2_with (fail)
   (refine (spec_l1src_n.calls g s0_0 p1 p2 4 q q1 q2 w0 w1 HI1.out HB1.out HN2.out).mono ?_;rintro e w2 ⟨rfl,hi2,hb2,hk2⟩;have HROW2 : Hid (BRow 5 w2 w.heap.size (grownCap w a1.size 0 5) (bytesOf a1)):=Lib.hid (HROW1.out.move (hk2.2 _ (by obtain ⟨_,_,h,_⟩:=HROW1.out.out;exact (Array.getElem?_eq_some_iff.1 h).1) (by omega) (by simp)));have HI2:=Lib.hid hi2;have HB2:=Lib.hid hb2;have HK2 : Hid (KeepBut w w2 g none):=Lib.hid ⟨by have:=hk2.1;have:=HK1.out.1;omega,fun k hk hg hn => (hk2.2 k (by have:=HK1.out.1;omega) hg hn).trans (HK1.out.2 k hk hg hn)⟩;clear hi2 hb2 hk2)
   obtain ⟨hx0,hfx0⟩:=HROW2.out.cell j (by rw [bytesOf_length];exact hj)
   have p5 : (0 ≤ (j : Int)) = True:=eq_true (by omega)
   have q5 : ((j : Int) < (a1.size : Int)) = True:=eq_true (by omega)
   obtain ⟨x,hxa,hxb,rfl,rfl,rfl⟩:=HX.out
   by_cases cq : q = 0
   ·subst cq
    obtain rfl:=hxa rfl
    have HSET:=Lib.hid (HROW2.out.set j (by rw [bytesOf_length];exact hj) 120)
    have hcv2:=BRow.string (P:=Tryd.prog) (by rw [List.length_set,bytesOf_length]) Tryd.underlying23 Tryd.underlying5 Tryd.underlying9 HSET.out
    go_wp2_with (fail)
    go_ret
    exact ⟨rfl,HI2.out.kept (S:=fun k => k = w.heap.size) (Kept.setCell (p:=⟨w.heap.size,j,none⟩) (Kept.refl _ (fun k => k = w.heap.size)) (Or.inl (show w.heap.size = w.heap.size from rfl)) _) (by omega),HB2.out.setCell HB.out.size _,⟨by simp [World.setCell];exact HK2.out.1,fun k hk hg hn => (Below.heap_setCell _ _ _ k (by simp;omega)).trans (HK2.out.2 k hk hg hn)⟩⟩
   ·have hq : (q == 0) = false:=by simp [cq]
    have HXB:=Lib.hid (hxb cq)
    clear hxa hxb
    go_wp2_with (fail)
    (refine (spec_l1other.calls _ x _ HXB.out).mono ?_;rintro e w3 ⟨rfl,hd⟩;obtain ⟨m,rfl⟩:=hd.out)
    have hx1 : (w2.drewN m).cell? ⟨w.heap.size,j,none⟩ = some (.int .u8 (rd (bytesOf a1) (j : Int))):=hx0
    have hfx1 : (w2.drewN m).frozen? ⟨w.heap.size,j,none⟩ = false:=hfx0
    have HSET:=Lib.hid (BRow.set (HROW2.out.move (w1:=w2.drewN m) rfl) j (by rw [bytesOf_length];exact hj) x)
    have hcv2:=BRow.string (P:=Tryd.prog) (by rw [List.length_set,bytesOf_length]) Tryd.underlying23 Tryd.underlying5 Tryd.underlying9 HSET.out
    go_wp2_with (fail)
    go_ret
    exact ⟨rfl,(HI2.out.drewN m).kept (S:=fun k => k = w.heap.size) (Kept.setCell (p:=⟨w.heap.size,j,none⟩) (Kept.refl _ (fun k => k = w.heap.size)) (Or.inl (show w.heap.size = w.heap.size from rfl)) _) (by omega),Below.setCell (w:=w2.drewN m) ⟨HB2.out.os,HB2.out.tape,HB2.out.output,HB2.out.size,HB2.out.block⟩ HB.out.size _,⟨by simp [World.setCell];exact HK2.out.1,fun k hk hg hn => (Below.heap_setCell _ _ _ k (by simp;omega)).trans (HK2.out.2 k hk hg hn)⟩⟩
  ·rw [if_neg ci] at h
   cases h
def spec_l1repeat.l0 : Nat → ByteArray → Int → ByteArray → Int → Option (ByteArray)
 | 0,_,_,_,_ => none
 | k + 1,x0,x1,x5,x6 => if x6 < x1 then (if x5.size + x0.size ≤ 9223372036854775807 then (spec_l1repeat.l0 k x0 x1 (x5 ++ x0) (wrap64 (x6 + 1))) else (none)) else (some x5)
def spec_l1repeat.f (k : Nat) (a0 : ByteArray) (a1 : Int) : Option (ByteArray):=spec_l1repeat.l0 k a0 a1 (⟨#[]⟩ : ByteArray) 0
set_option maxHeartbeats 8000000 in
set_option maxRecDepth 100000 in
theorem spec_l1repeat.calls (k : Nat) (a0 : ByteArray) (a1 : Int) (r : ByteArray) (w : World) (h : spec_l1repeat.f k a0 a1 = some r) :
  Calls Tryd.prog 40 #[.string a0, .int .i64 a1] w fun e w' => e = .returned (.string r) ∧ Drawn0 w w':=by
 have H : (spec_l1repeat.l0 k a0 a1 (⟨#[]⟩ : ByteArray) 0) = some r:=h
 clear h
 have H':=Aside0.mk H
 clear H
 go_enter Tryd.func40,Tryd.ntmps40
 go_wp2
 go_loopg [5,6] k (fun kq v5 v6 w' => ∃ (x5_1 : ByteArray) (x6_1 : Int),v5 = .string x5_1 ∧ v6 = .int .i64 x6_1 ∧ Aside0 (spec_l1repeat.l0 kq a0 a1 x5_1 x6_1 = some r) ∧ Aside0 (kq ≤ k) ∧ Drawn0 w w')
 case atStart => exact ⟨((⟨#[]⟩ : ByteArray)),(0),(by first | rfl | (simp;done) | (simp [*];done)),(by first | rfl | (simp;done) | (simp [*];done)),H',⟨Nat.le_refl _⟩,by repeat (first | exact Drawn0.refl _ | apply Drawn0.step)⟩
 case round =>
  clear H'
  try clear p2
  obtain ⟨x5_1,x6_1,rfl,rfl,HA,HK1,⟨m1,rfl⟩⟩:=hrel
  cases gk with
  | zero => exact absurd HA.out (by simp [spec_l1repeat.l0])
  | succ k1 =>
   have H:=HA.out
   clear HA
   simp only [spec_l1repeat.l0] at H
   by_cases c3 : x6_1 < a1
   ·rw [if_pos c3] at H
    have c3b0 : decide (x6_1 < a1) = true:=decide_eq_true c3
    clear c3
    by_cases c4 : x5_1.size + a0.size ≤ 9223372036854775807
    ·rw [if_pos c4] at H
     have c4b0:=eq_true c4
     have c4b1 : decide (x5_1.size + a0.size ≤ 9223372036854775807) = true:=decide_eq_true c4
     try have c4b2 : (9223372036854775807 < x5_1.size + a0.size) = False:=eq_false (Nat.not_lt.2 c4)
     have H':=Aside0.mk H
     clear H
     go_wp2
     go_roundg k1
     case measure => have:=HK1.out;omega
     case rel => exact ⟨(x5_1 ++ a0),(wrap64 (x6_1 + 1)),(by first | rfl | (simp;done) | (simp [*];done)),(by first | rfl | (simp;done) | (simp [*];done)),H',⟨by have:=HK1.out;omega⟩,by repeat (first | exact Drawn0.refl _ | apply Drawn0.step)⟩
    ·rw [if_neg c4] at H
     exact absurd H (by simp)
   ·rw [if_neg c3] at H
    have c3b0 : decide (x6_1 < a1) = false:=decide_eq_false c3
    clear c3
    obtain rfl:=Option.some.inj H
    go_wp2
    go_ret
    exact ⟨by first | rfl | (simp;done) | (simp [*];done),by repeat (first | exact Drawn0.refl _ | apply Drawn0.step)⟩
end Go.Proofs.YtdoclpgciadjaaaDoor.P
namespace Go.Proofs.YtdoclpgciadjaaaDoor.P
open Go Go.RowKit Go.Proofs.YtdoclpgciadjaaaDoorW.PrintWords Go.Proofs.YtdoclpgciadjaaaDoorW.PrintLast
set_option linter.unusedVariables false
theorem other_ex (c : Int) : ∃ c',spec_l1other.f c = some c':=by unfold spec_l1other.f;split <;> exact ⟨_,rfl⟩
theorem gen_inner (s0 : List Int) (N K c i s : Int) (L0 : Nat) (Goal : ByteArray × Int × Int → Prop) (hN : N ≤ 20000000) (hK : K ≤ 100) (hout : ∀ x : List Int,L0 < x.length → (x.length : Int) ≤ N → ∀ c', ∃ R,Ev (fun k => spec_l1genText.l0 k N x c' s0 i s) R ∧ Goal R) :
  ∀ (m j : Nat) (x : List Int),((j + m : Nat) : Int) = K → (x.length : Int) ≤ N → (L0 < x.length ∨ (L0 ≤ x.length ∧ (x.length : Int) < N ∧ 0 < m)) → ∃ R,Ev (fun k => spec_l1genText.l1 k N x c K (j : Int) s0 i s) R ∧ Goal R:=by
 intro m
 induction m with
 | zero =>
  intro j x hj hx hl
  obtain ⟨c',hc⟩:=other_ex c
  obtain ⟨R,hR,hG⟩:=hout x (by omega) hx c'
  refine ⟨R,Ev.step (f:=fun k => spec_l1genText.l0 k N x c' s0 i s) (fun k => ?_) hR,hG⟩
  simp only [spec_l1genText.l1]
  rw [if_neg (by omega),hc]
  rfl
 | succ m ih =>
  intro j x hj hx hl
  by_cases c1 : (x.length : Int) < N
  ·obtain ⟨R,hR,hG⟩:=ih (j + 1) (x ++ [c]) (by omega) (by rw [List.length_append];simp;omega) (.inl (by rw [List.length_append];simp;omega))
   refine ⟨R,Ev.step (f:=fun k => spec_l1genText.l1 k N (x ++ [c]) c K ((j + 1 : Nat) : Int) s0 i s) (fun k => ?_) hR,hG⟩
   simp only [spec_l1genText.l1]
   rw [if_pos (by omega),if_pos c1,if_pos (by omega),w64 (by omega) (by omega)]
   rfl
  ·obtain ⟨c',hc⟩:=other_ex c
   obtain ⟨R,hR,hG⟩:=hout x (by omega) hx c'
   refine ⟨R,Ev.step (f:=fun k => spec_l1genText.l0 k N x c' s0 i s) (fun k => ?_) hR,hG⟩
   simp only [spec_l1genText.l1]
   rw [if_pos (by omega),if_neg c1,hc]
   rfl
theorem gen_outer (s0 : List Int) (N : Int) (hN : N ≤ 20000000) : ∀ (b d : Nat) (x : List Int) (c i s : Int),d ≤ b → ((x.length + d : Nat) : Int) = N → 0 ≤ i → i + 3 * d ≤ 90000000000 → ∃ R,Ev (fun k => spec_l1genText.l0 k N x c s0 i s) R ∧ (R.1.size : Int) = N ∧ 0 ≤ R.2.1 ∧ R.2.1 ≤ i + 3 * d:=by
 intro b
 induction b with
 | zero =>
  intro d x c i s hd hx hi hb
  refine ⟨(strOfNums x,i,s),Ev.step (f:=fun _ => some (strOfNums x,i,s)) (fun k => ?_) (Ev.now _),by simp only [];rw [strOfNums_size];omega,hi,by simp only [];omega⟩
  simp only [spec_l1genText.l0]
  rw [if_neg (by omega)]
 | succ b ih =>
  intro d x c i s hd hx hi hb
  by_cases c0 : d = 0
  ·exact ih d x c i s (by omega) hx hi hb
  ·obtain ⟨v1,s1,e1,h11,h12⟩:=n_ex s0 i s 7 hi (by omega) (by omega) (by omega)
   obtain ⟨v2,s2,e2,h21,h22⟩:=n_ex s0 (i + 1) s1 3 (by omega) (by omega) (by omega) (by omega)
   by_cases c2 : v2 > 0
   ·obtain ⟨v3,s3,e3,h31,h32⟩:=n_ex s0 (i + 1 + 1) s2 2 (by omega) (by omega) (by omega) (by omega)
    obtain ⟨R,hR,hG⟩:=gen_inner s0 N (1 + v3) c (i + 1 + 1 + 1) s3 x.length (fun R => (R.1.size : Int) = N ∧ 0 ≤ R.2.1 ∧ R.2.1 ≤ i + 3 * d) hN (by omega) (fun x' hx1 hx2 c' => by
     obtain ⟨R,h1,h2,h3,h4⟩:=ih (N.toNat - x'.length) x' c' (i + 1 + 1 + 1) s3 (by omega) (by omega) (by omega) (by omega)
     exact ⟨R,h1,h2,h3,by omega⟩) (1 + v3).toNat 0 x (by omega) (by omega) (.inr ⟨Nat.le_refl _,by omega,by omega⟩)
    refine ⟨R,Ev.step (f:=fun k => spec_l1genText.j1 k N x c (1 + v3) s0 (i + 1 + 1 + 1) s3) (fun k => ?_) (Ev.step (f:=fun k => spec_l1genText.l1 k N x c (1 + v3) ((0 : Nat) : Int) s0 (i + 1 + 1 + 1) s3) (fun k => ?_) hR),hG⟩
    ·simp only [spec_l1genText.l0]
     rw [if_pos (by omega),e1,Option.bind_some,e2,Option.bind_some,if_pos c2,e3,Option.bind_some,w64 (by omega) (by omega)]
    ·simp only [spec_l1genText.j1]
     rfl
   ·obtain ⟨R,hR,hG⟩:=gen_inner s0 N (1 + v1) c (i + 1 + 1) s2 x.length (fun R => (R.1.size : Int) = N ∧ 0 ≤ R.2.1 ∧ R.2.1 ≤ i + 3 * d) hN (by omega) (fun x' hx1 hx2 c' => by
     obtain ⟨R,h1,h2,h3,h4⟩:=ih (N.toNat - x'.length) x' c' (i + 1 + 1) s2 (by omega) (by omega) (by omega) (by omega)
     exact ⟨R,h1,h2,h3,by omega⟩) (1 + v1).toNat 0 x (by omega) (by omega) (.inr ⟨Nat.le_refl _,by omega,by omega⟩)
    refine ⟨R,Ev.step (f:=fun k => spec_l1genText.j1 k N x c (1 + v1) s0 (i + 1 + 1) s2) (fun k => ?_) (Ev.step (f:=fun k => spec_l1genText.l1 k N x c (1 + v1) ((0 : Nat) : Int) s0 (i + 1 + 1) s2) (fun k => ?_) hR),hG⟩
    ·simp only [spec_l1genText.l0]
     rw [if_pos (by omega),e1,Option.bind_some,e2,Option.bind_some,if_neg c2,w64 (by omega) (by omega)]
    ·simp only [spec_l1genText.j1]
     rfl
theorem gen_ex (s0 : List Int) (i s a : Int) (hi : 0 ≤ i) (hi2 : i ≤ 1000000000) (ha : 0 ≤ a) (hb : a ≤ 10000000) : ∃ R,Ev (fun k => spec_l1genText.f k s0 i s a) R ∧ (R.1.size : Int) ≤ a ∧ 0 ≤ R.2.1 ∧ R.2.1 ≤ i + 1 + 3 * a:=by
 obtain ⟨v,s1,e,h1,h2⟩:=n_ex s0 i s (a + 1) hi (by omega) (by omega) (by omega)
 obtain ⟨R,hR,g1,g2,g3⟩:=gen_outer s0 v (by omega) v.toNat v.toNat [] 48 (i + 1) s1 (Nat.le_refl _) (by simp;omega) (by omega) (by omega)
 refine ⟨R, ?_,by omega,g2,by omega⟩
 unfold spec_l1genText.f
 rw [w64 (x:=a + 1) (by omega) (by omega)]
 exact ev_some e hR
theorem spoil_ex (s0 : List Int) (i s : Int) (t : ByteArray) (hi : 0 ≤ i) (hi2 : i ≤ 20000000000) (ht : t.size ≤ 10000000) : ∃ u j q,spec_l1spoil.f s0 i s t = some (u,j,q) ∧ u.size = t.size ∧ 0 ≤ j ∧ j ≤ i + 2:=by
 unfold spec_l1spoil.f
 by_cases c : t.size = 0
 ·rw [if_pos c];exact ⟨_,_,_,rfl,rfl,hi,by omega⟩
 ·rw [if_neg c,if_neg (by omega)]
  obtain ⟨v,s1,e,h1,h2⟩:=n_ex s0 i s (t.size : Int) hi (by omega) (by omega) (by omega)
  obtain ⟨q,s2,e2,h3,h4⟩:=n_ex s0 (i + 1) s1 4 (by omega) (by omega) (by omega) (by omega)
  rw [e,Option.bind_some,e2,Option.bind_some,if_pos ⟨h1,h2⟩]
  by_cases cq : q = 0
  ·rw [if_pos cq];exact ⟨_,_,_,rfl,by rw [strOfNums_size,List.length_set,bytesOf_length],by simp only [];omega,by simp only [];omega⟩
  ·rw [if_neg cq]
   obtain ⟨c',hc⟩:=other_ex (rd (bytesOf t) v)
   rw [hc]
   exact ⟨_,_,_,rfl,by rw [strOfNums_size,List.length_set,bytesOf_length],by simp only [];omega,by simp only [];omega⟩
theorem repeat_ex (s : ByteArray) (hs : s.size ≤ 100) : ∀ (d i : Nat) (x : ByteArray),i + d = 3850 → x.size ≤ i * 100 → ∃ R,Ev (fun k => spec_l1repeat.l0 k s 3850 x (i : Int)) R ∧ R.size ≤ 385000:=by
 intro d
 induction d with
 | zero =>
  intro i x hi hx
  refine ⟨x,Ev.step (f:=fun _ => some x) (fun k => ?_) (Ev.now _),by omega⟩
  simp only [spec_l1repeat.l0]
  rw [if_neg (by omega)]
 | succ d ih =>
  intro i x hi hx
  obtain ⟨R,hR,hz⟩:=ih (i + 1) (x ++ s) (by omega) (by rw [ByteArray.size_append];omega)
  refine ⟨R,Ev.step (f:=fun k => spec_l1repeat.l0 k s 3850 (x ++ s) ((i + 1 : Nat) : Int)) (fun k => ?_) hR,hz⟩
  simp only [spec_l1repeat.l0]
  rw [if_pos (by omega),if_pos (by omega),w64 (by omega) (by omega)]
  rfl
end Go.Proofs.YtdoclpgciadjaaaDoor.P
namespace Go.Proofs.YtdoclpgciadjaaaDoor.P
open Go.RowKit Go.Proofs.YtdoclpgciadjaaaDoorW.PrintWords Go.Proofs.YtdoclpgciadjaaaDoorW.PrintLast Go.Proofs.YtdoclpgciadjaaaDoorW.PrintMore
set_option linter.unusedVariables false
set_option linter.unusedSimpArgs false
def spec_l1genId.j0 : Nat → Int → List Int → Int → Int → Option (Int × Int × Int)
 | 0,_,_,_,_ => none
 | k + 1,x5,x1000,x1001,x1002 => (spec_l1src_n.f x1000 x1001 x1002 6).bind fun bt134 => (if bt134.1 = 0 then (some (0,bt134.2.1,bt134.2.2)) else (if bt134.1 = 1 then (some ((wrap64 (x5 - 1)) % 4294967296,bt134.2.1,bt134.2.2)) else (if bt134.1 = 2 then ((spec_l1src_n.f x1000 bt134.2.1 bt134.2.2 8).bind fun bt137 => (some ((bt137.1) % 4294967296,bt137.2.1,bt137.2.2))) else (if bt134.1 = 3 then ((spec_l1src_n.f x1000 bt134.2.1 bt134.2.2 64).bind fun bt140 => (some ((wrap64 ((wrap64 (x5 - 1)) - bt140.1)) % 4294967296,bt140.2.1,bt140.2.2))) else ((spec_l1src_n.f x1000 bt134.2.1 bt134.2.2 x5).bind fun bt143 => (some ((bt143.1) % 4294967296,bt143.2.1,bt143.2.2)))))))
def spec_l1genId.f (k : Nat) (s0_0 : List Int) (s0_1 : Int) (s0_2 : Int) (a1 : Bool) : Option (Int × Int × Int):=if a1 = true then (spec_l1genId.j0 k 536870912 s0_0 s0_1 s0_2) else (spec_l1genId.j0 k 2048 s0_0 s0_1 s0_2)
set_option maxHeartbeats 8000000 in
set_option maxRecDepth 100000 in
theorem spec_l1genId.calls (k : Nat) (g : Nat) (s0_0 : List Int) (s0_1 : Int) (s0_2 : Int) (a1 : Bool) (r1 : Int) (r2 : Int) (r3 : Int) (w0 w : World) (hI : IsS80 w0 w g s0_0 s0_1 s0_2) (hB : Below w0.heap.size w0 w) (h : spec_l1genId.f k s0_0 s0_1 s0_2 a1 = some (r1,r2,r3)) :
  Calls Tryd.prog 70 #[.pointer (some ⟨g,0,none⟩), .bool a1] w fun e w' => e = .returned (.int .u32 r1) ∧ IsS80 w0 w' g s0_0 r2 r3 ∧ Below w0.heap.size w0 w' ∧ KeepBut w w' g none:=by
 have HI0:=Aside0.mk hI
 have HK:=Aside0.mk (KeepBut.refl w g none)
 have HL:=Aside0.mk hB.size
 clear hI
 have HW0:=Aside0.mk hB.size
 have HB:=Aside0.mk hB
 clear hB
 have H : (if a1 = true then (spec_l1genId.j0 k 536870912 s0_0 s0_1 s0_2) else (spec_l1genId.j0 k 2048 s0_0 s0_1 s0_2)) = some (r1,r2,r3):=h
 clear h
 have HC3:=Aside0.mk H
 clear H
 go_enter Tryd.func70,Tryd.ntmps70
 go_upto_if 6 with (fail)
 go_cut [5] (fun v5 wc => ∃ (kq : Nat) (x5_2 : Int),v5 = .int .i64 x5_2 ∧ Aside0 (spec_l1genId.j0 kq x5_2 s0_0 s0_1 s0_2 = some (r1,r2,r3)) ∧ Aside0 (kq ≤ k) ∧ Aside0 (IsS80 w0 wc g s0_0 s0_1 s0_2) ∧ Aside0 (KeepBut w wc g none) ∧ Aside0 (Below w0.heap.size w0 wc))
 case first =>
  have H:=HC3.out
  clear HC3
  by_cases c4 : a1 = true
  ·subst c4
   have H1 : (spec_l1genId.j0 k 536870912 s0_0 s0_1 s0_2) = some (r1,r2,r3):=by rw [if_pos rfl] at H;exact H
   clear H
   have H:=H1
   clear H1
   have H':=Aside0.mk H
   clear H
   go_wp2
   go_meet
   case rel => exact ⟨_,(536870912),(by first | rfl | (simp;done) | (simp [*];done)),H',⟨by first | omega | exact Nat.le_refl _⟩,⟨by repeat (first | (with_reducible first | exact HI0.out | apply IsS80.alloc | apply IsS80.drewN | apply IsS80.drew | apply IsS80.set_1 | apply IsS80.set_2) | exact HI0.out)⟩,⟨by repeat (first | (with_reducible first | exact HK.out | apply KeepBut.set_ | apply keep_drewN | apply keep_drew | apply keep_alloc) | exact HK.out)⟩,⟨by repeat (first | (with_reducible first | exact HB.out | apply below_alloc | apply pw_below_drewN | apply below_drew1 | refine below_set ?_ (IsS80.ge HI0.out)) | exact HB.out)⟩⟩
  ·replace c4:=Bool.eq_false_iff.mpr c4
   subst c4
   have H1 : (spec_l1genId.j0 k 2048 s0_0 s0_1 s0_2) = some (r1,r2,r3):=by rw [if_neg (show ¬ (false = true) by decide)] at H;exact H
   clear H
   have H:=H1
   clear H1
   have H':=Aside0.mk H
   clear H
   go_wp2
   go_meet
   case rel => exact ⟨_,(2048),(by first | rfl | (simp;done) | (simp [*];done)),H',⟨by first | omega | exact Nat.le_refl _⟩,⟨by repeat (first | (with_reducible first | exact HI0.out | apply IsS80.alloc | apply IsS80.drewN | apply IsS80.drew | apply IsS80.set_1 | apply IsS80.set_2) | exact HI0.out)⟩,⟨by repeat (first | (with_reducible first | exact HK.out | apply KeepBut.set_ | apply keep_drewN | apply keep_drew | apply keep_alloc) | exact HK.out)⟩,⟨by repeat (first | (with_reducible first | exact HB.out | apply below_alloc | apply pw_below_drewN | apply below_drew1 | refine below_set ?_ (IsS80.ge HI0.out)) | exact HB.out)⟩⟩
 case rest =>
  clear HC3
  try clear p2
  try clear c4
  obtain ⟨kq,x5_2,rfl,HA,HJ2,HI0,HK,HB⟩:=hcut
  cases kq with
  | zero => exact absurd HA.out (by simp [spec_l1genId.j0])
  | succ kj2 =>
   have H:=HA.out
   clear HA
   simp only [spec_l1genId.j0] at H
   replace H:=Option.bind_eq_some_iff.mp H
   obtain ⟨⟨t134,t135,t136⟩,A50,H⟩:=H
   replace H : (if t134 = 0 then (some (0,t135,t136)) else (if t134 = 1 then (some ((wrap64 (x5_2 - 1)) % 4294967296,t135,t136)) else (if t134 = 2 then ((spec_l1src_n.f s0_0 t135 t136 8).bind fun bt137 => (some ((bt137.1) % 4294967296,bt137.2.1,bt137.2.2))) else (if t134 = 3 then ((spec_l1src_n.f s0_0 t135 t136 64).bind fun bt140 => (some ((wrap64 ((wrap64 (x5_2 - 1)) - bt140.1)) % 4294967296,bt140.2.1,bt140.2.2))) else ((spec_l1src_n.f s0_0 t135 t136 x5_2).bind fun bt143 => (some ((bt143.1) % 4294967296,bt143.2.1,bt143.2.2))))))) = some (r1,r2,r3):=H
   have A5:=Aside0.mk A50
   clear A50
   by_cases c6 : t134 = 0
   ·rw [if_pos c6] at H
    have c6b0 : (t134 == 0) = true:=beq_iff_eq.mpr c6
    have c6b1 : (t134 != 0) = false:=bne_eq_false_iff_eq.mpr c6
    clear c6
    simp only [Option.some.injEq,Prod.mk.injEq] at H
    obtain ⟨rfl,rfl,rfl⟩:=H
    go_wp2_with (first | ((with_reducible refine gate_callee (f:=38) rfl ?_);refine goesL_ (some 8) rfl rfl Tryd.func38 (by kernel_rfl) rfl #[.pointer (some ⟨g,0,none⟩), .int .i64 6] rfl (by (try simp only [List.map_toArray,List.map_cons,List.map_nil]);first | done | rfl | (simp only [List.length_drop,List.length_take];rfl)) ?_;(with_reducible refine (spec_l1src_n.calls g s0_0 s0_1 s0_2 6 t134 t135 t136 w0 _ ?side1 ?side2 A5.out).mono ?_);(case side1 => repeat (first | (with_reducible first | exact HI0.out | apply IsS80.alloc | apply IsS80.drewN | apply IsS80.drew | apply IsS80.set_1 | apply IsS80.set_2) | exact HI0.out));(case side2 => repeat (first | (with_reducible first | exact HB.out | apply below_alloc | apply pw_below_drewN | apply below_drew1 | refine below_set ?_ (IsS80.ge HI0.out)) | exact HB.out));rintro e w7 ⟨rfl,hi,hb,hk⟩;refine ⟨_,rfl, ?_⟩;have n0_:=Aside0.mk (KeepBut.trans (by repeat (first | (with_reducible first | exact HK.out | apply KeepBut.set_ | apply keep_drewN | apply keep_drew | apply keep_alloc) | exact HK.out)) hk (.inl rfl));have n1_:=Aside0.mk (hb);have n2_:=Aside0.mk (hi);clear HK;clear HB;clear HI0;have HK:=n0_;have HB:=n1_;have HI0:=n2_;clear n0_ n1_ n2_;(try clear hb);(try clear hb2);(try clear hk);(try clear hi)))
    go_ret
    exact ⟨by first | rfl | (simp [errW_none,errW_some] <;> rfl) | (simp [*,errW_none,errW_some] <;> rfl),by repeat (first | (with_reducible first | exact HI0.out | apply IsS80.alloc | apply IsS80.drewN | apply IsS80.drew | apply IsS80.set_1 | apply IsS80.set_2) | exact HI0.out),by repeat (first | (with_reducible first | exact HB.out | apply below_alloc | apply pw_below_drewN | apply below_drew1 | refine below_set ?_ (IsS80.ge HI0.out)) | exact HB.out),by repeat (first | (with_reducible first | exact HK.out | apply KeepBut.set_ | apply keep_drewN | apply keep_drew | apply keep_alloc) | exact HK.out)⟩
   ·rw [if_neg c6] at H
    have c6b0 : (t134 == 0) = false:=beq_eq_false_iff_ne.mpr c6
    have c6b1 : (t134 != 0) = true:=bne_iff_ne.mpr c6
    by_cases c8 : t134 = 1
    ·rw [if_pos c8] at H
     have c8b0 : (t134 == 1) = true:=beq_iff_eq.mpr c8
     have c8b1 : (t134 != 1) = false:=bne_eq_false_iff_eq.mpr c8
     clear c8
     simp only [Option.some.injEq,Prod.mk.injEq] at H
     obtain ⟨rfl,rfl,rfl⟩:=H
     go_wp2_with (first | ((with_reducible refine gate_callee (f:=38) rfl ?_);refine goesL_ (some 8) rfl rfl Tryd.func38 (by kernel_rfl) rfl #[.pointer (some ⟨g,0,none⟩), .int .i64 6] rfl (by (try simp only [List.map_toArray,List.map_cons,List.map_nil]);first | done | rfl | (simp only [List.length_drop,List.length_take];rfl)) ?_;(with_reducible refine (spec_l1src_n.calls g s0_0 s0_1 s0_2 6 t134 t135 t136 w0 _ ?side1 ?side2 A5.out).mono ?_);(case side1 => repeat (first | (with_reducible first | exact HI0.out | apply IsS80.alloc | apply IsS80.drewN | apply IsS80.drew | apply IsS80.set_1 | apply IsS80.set_2) | exact HI0.out));(case side2 => repeat (first | (with_reducible first | exact HB.out | apply below_alloc | apply pw_below_drewN | apply below_drew1 | refine below_set ?_ (IsS80.ge HI0.out)) | exact HB.out));rintro e w9 ⟨rfl,hi,hb,hk⟩;refine ⟨_,rfl, ?_⟩;have n0_:=Aside0.mk (KeepBut.trans (by repeat (first | (with_reducible first | exact HK.out | apply KeepBut.set_ | apply keep_drewN | apply keep_drew | apply keep_alloc) | exact HK.out)) hk (.inl rfl));have n1_:=Aside0.mk (hb);have n2_:=Aside0.mk (hi);clear HK;clear HB;clear HI0;have HK:=n0_;have HB:=n1_;have HI0:=n2_;clear n0_ n1_ n2_;(try clear hb);(try clear hb2);(try clear hk);(try clear hi)))
     go_ret
     exact ⟨by first | rfl | (simp [errW_none,errW_some] <;> rfl) | (simp [*,errW_none,errW_some] <;> rfl),by repeat (first | (with_reducible first | exact HI0.out | apply IsS80.alloc | apply IsS80.drewN | apply IsS80.drew | apply IsS80.set_1 | apply IsS80.set_2) | exact HI0.out),by repeat (first | (with_reducible first | exact HB.out | apply below_alloc | apply pw_below_drewN | apply below_drew1 | refine below_set ?_ (IsS80.ge HI0.out)) | exact HB.out),by repeat (first | (with_reducible first | exact HK.out | apply KeepBut.set_ | apply keep_drewN | apply keep_drew | apply keep_alloc) | exact HK.out)⟩
    ·rw [if_neg c8] at H
     have c8b0 : (t134 == 1) = false:=beq_eq_false_iff_ne.mpr c8
     have c8b1 : (t134 != 1) = true:=bne_iff_ne.mpr c8
     by_cases c10 : t134 = 2
     ·rw [if_pos c10] at H
      have c10b0 : (t134 == 2) = true:=beq_iff_eq.mpr c10
      have c10b1 : (t134 != 2) = false:=bne_eq_false_iff_eq.mpr c10
      clear c10
      replace H:=Option.bind_eq_some_iff.mp H
      obtain ⟨⟨t137,t138,t139⟩,A110,H⟩:=H
      replace H : (some ((t137) % 4294967296,t138,t139)) = some (r1,r2,r3):=H
      have A11:=Aside0.mk A110
      clear A110
      simp only [Option.some.injEq,Prod.mk.injEq] at H
      obtain ⟨rfl,rfl,rfl⟩:=H
      go_wp2_with (first | ((with_reducible refine gate_callee (f:=38) rfl ?_);refine goesL_ (some 8) rfl rfl Tryd.func38 (by kernel_rfl) rfl #[.pointer (some ⟨g,0,none⟩), .int .i64 6] rfl (by (try simp only [List.map_toArray,List.map_cons,List.map_nil]);first | done | rfl | (simp only [List.length_drop,List.length_take];rfl)) ?_;(with_reducible refine (spec_l1src_n.calls g s0_0 s0_1 s0_2 6 t134 t135 t136 w0 _ ?side1 ?side2 A5.out).mono ?_);(case side1 => repeat (first | (with_reducible first | exact HI0.out | apply IsS80.alloc | apply IsS80.drewN | apply IsS80.drew | apply IsS80.set_1 | apply IsS80.set_2) | exact HI0.out));(case side2 => repeat (first | (with_reducible first | exact HB.out | apply below_alloc | apply pw_below_drewN | apply below_drew1 | refine below_set ?_ (IsS80.ge HI0.out)) | exact HB.out));rintro e w12 ⟨rfl,hi,hb,hk⟩;refine ⟨_,rfl, ?_⟩;have n0_:=Aside0.mk (KeepBut.trans (by repeat (first | (with_reducible first | exact HK.out | apply KeepBut.set_ | apply keep_drewN | apply keep_drew | apply keep_alloc) | exact HK.out)) hk (.inl rfl));have n1_:=Aside0.mk (hb);have n2_:=Aside0.mk (hi);clear HK;clear HB;clear HI0;have HK:=n0_;have HB:=n1_;have HI0:=n2_;clear n0_ n1_ n2_;(try clear hb);(try clear hb2);(try clear hk);(try clear hi)) | ((with_reducible refine gate_callee (f:=38) rfl ?_);refine goesL_ (some 19) rfl rfl Tryd.func38 (by kernel_rfl) rfl #[.pointer (some ⟨g,0,none⟩), .int .i64 8] rfl (by (try simp only [List.map_toArray,List.map_cons,List.map_nil]);first | done | rfl | (simp only [List.length_drop,List.length_take];rfl)) ?_;(with_reducible refine (spec_l1src_n.calls g s0_0 t135 t136 8 t137 t138 t139 w0 _ ?side1 ?side2 A11.out).mono ?_);(case side1 => repeat (first | (with_reducible first | exact HI0.out | apply IsS80.alloc | apply IsS80.drewN | apply IsS80.drew | apply IsS80.set_1 | apply IsS80.set_2) | exact HI0.out));(case side2 => repeat (first | (with_reducible first | exact HB.out | apply below_alloc | apply pw_below_drewN | apply below_drew1 | refine below_set ?_ (IsS80.ge HI0.out)) | exact HB.out));rintro e w13 ⟨rfl,hi,hb,hk⟩;refine ⟨_,rfl, ?_⟩;have n0_:=Aside0.mk (KeepBut.trans (by repeat (first | (with_reducible first | exact HK.out | apply KeepBut.set_ | apply keep_drewN | apply keep_drew | apply keep_alloc) | exact HK.out)) hk (.inl rfl));have n1_:=Aside0.mk (hb);have n2_:=Aside0.mk (hi);clear HK;clear HB;clear HI0;have HK:=n0_;have HB:=n1_;have HI0:=n2_;clear n0_ n1_ n2_;(try clear hb);(try clear hb2);(try clear hk);(try clear hi)))
      go_ret
      exact ⟨by first | rfl | (simp [errW_none,errW_some] <;> rfl) | (simp [*,errW_none,errW_some] <;> rfl),by repeat (first | (with_reducible first | exact HI0.out | apply IsS80.alloc | apply IsS80.drewN | apply IsS80.drew | apply IsS80.set_1 | apply IsS80.set_2) | exact HI0.out),by repeat (first | (with_reducible first | exact HB.out | apply below_alloc | apply pw_below_drewN | apply below_drew1 | refine below_set ?_ (IsS80.ge HI0.out)) | exact HB.out),by repeat (first | (with_reducible first | exact HK.out | apply KeepBut.set_ | apply keep_drewN | apply keep_drew | apply keep_alloc) | exact HK.out)⟩
     ·rw [if_neg c10] at H
      have c10b0 : (t134 == 2) = false:=beq_eq_false_iff_ne.mpr c10
      have c10b1 : (t134 != 2) = true:=bne_iff_ne.mpr c10
      by_cases c14 : t134 = 3
      ·rw [if_pos c14] at H
       have c14b0 : (t134 == 3) = true:=beq_iff_eq.mpr c14
       have c14b1 : (t134 != 3) = false:=bne_eq_false_iff_eq.mpr c14
       clear c14
       replace H:=Option.bind_eq_some_iff.mp H
       obtain ⟨⟨t140,t141,t142⟩,A150,H⟩:=H
       replace H : (some ((wrap64 ((wrap64 (x5_2 - 1)) - t140)) % 4294967296,t141,t142)) = some (r1,r2,r3):=H
       have A15:=Aside0.mk A150
       clear A150
       simp only [Option.some.injEq,Prod.mk.injEq] at H
       obtain ⟨rfl,rfl,rfl⟩:=H
       go_wp2_with (first | ((with_reducible refine gate_callee (f:=38) rfl ?_);refine goesL_ (some 8) rfl rfl Tryd.func38 (by kernel_rfl) rfl #[.pointer (some ⟨g,0,none⟩), .int .i64 6] rfl (by (try simp only [List.map_toArray,List.map_cons,List.map_nil]);first | done | rfl | (simp only [List.length_drop,List.length_take];rfl)) ?_;(with_reducible refine (spec_l1src_n.calls g s0_0 s0_1 s0_2 6 t134 t135 t136 w0 _ ?side1 ?side2 A5.out).mono ?_);(case side1 => repeat (first | (with_reducible first | exact HI0.out | apply IsS80.alloc | apply IsS80.drewN | apply IsS80.drew | apply IsS80.set_1 | apply IsS80.set_2) | exact HI0.out));(case side2 => repeat (first | (with_reducible first | exact HB.out | apply below_alloc | apply pw_below_drewN | apply below_drew1 | refine below_set ?_ (IsS80.ge HI0.out)) | exact HB.out));rintro e w16 ⟨rfl,hi,hb,hk⟩;refine ⟨_,rfl, ?_⟩;have n0_:=Aside0.mk (KeepBut.trans (by repeat (first | (with_reducible first | exact HK.out | apply KeepBut.set_ | apply keep_drewN | apply keep_drew | apply keep_alloc) | exact HK.out)) hk (.inl rfl));have n1_:=Aside0.mk (hb);have n2_:=Aside0.mk (hi);clear HK;clear HB;clear HI0;have HK:=n0_;have HB:=n1_;have HI0:=n2_;clear n0_ n1_ n2_;(try clear hb);(try clear hb2);(try clear hk);(try clear hi)) | ((with_reducible refine gate_callee (f:=38) rfl ?_);refine goesL_ (some 26) rfl rfl Tryd.func38 (by kernel_rfl) rfl #[.pointer (some ⟨g,0,none⟩), .int .i64 64] rfl (by (try simp only [List.map_toArray,List.map_cons,List.map_nil]);first | done | rfl | (simp only [List.length_drop,List.length_take];rfl)) ?_;(with_reducible refine (spec_l1src_n.calls g s0_0 t135 t136 64 t140 t141 t142 w0 _ ?side1 ?side2 A15.out).mono ?_);(case side1 => repeat (first | (with_reducible first | exact HI0.out | apply IsS80.alloc | apply IsS80.drewN | apply IsS80.drew | apply IsS80.set_1 | apply IsS80.set_2) | exact HI0.out));(case side2 => repeat (first | (with_reducible first | exact HB.out | apply below_alloc | apply pw_below_drewN | apply below_drew1 | refine below_set ?_ (IsS80.ge HI0.out)) | exact HB.out));rintro e w17 ⟨rfl,hi,hb,hk⟩;refine ⟨_,rfl, ?_⟩;have n0_:=Aside0.mk (KeepBut.trans (by repeat (first | (with_reducible first | exact HK.out | apply KeepBut.set_ | apply keep_drewN | apply keep_drew | apply keep_alloc) | exact HK.out)) hk (.inl rfl));have n1_:=Aside0.mk (hb);have n2_:=Aside0.mk (hi);clear HK;clear HB;clear HI0;have HK:=n0_;have HB:=n1_;have HI0:=n2_;clear n0_ n1_ n2_;(try clear hb);(try clear hb2);(try clear hk);(try clear hi)))
       go_ret
       exact ⟨by first | rfl | (simp [errW_none,errW_some] <;> rfl) | (simp [*,errW_none,errW_some] <;> rfl),by repeat (first | (with_reducible first | exact HI0.out | apply IsS80.alloc | apply IsS80.drewN | apply IsS80.drew | apply IsS80.set_1 | apply IsS80.set_2) | exact HI0.out),by repeat (first | (with_reducible first | exact HB.out | apply below_alloc | apply pw_below_drewN | apply below_drew1 | refine below_set ?_ (IsS80.ge HI0.out)) | exact HB.out),by repeat (first | (with_reducible first | exact HK.out | apply KeepBut.set_ | apply keep_drewN | apply keep_drew | apply keep_alloc) | exact HK.out)⟩
      ·rw [if_neg c14] at H
       have c14b0 : (t134 == 3) = false:=beq_eq_false_iff_ne.mpr c14
       have c14b1 : (t134 != 3) = true:=bne_iff_ne.mpr c14
       replace H:=Option.bind_eq_some_iff.mp H
       obtain ⟨⟨t143,t144,t145⟩,A180,H⟩:=H
       replace H : (some ((t143) % 4294967296,t144,t145)) = some (r1,r2,r3):=H
       have A18:=Aside0.mk A180
       clear A180
       simp only [Option.some.injEq,Prod.mk.injEq] at H
       obtain ⟨rfl,rfl,rfl⟩:=H
       go_wp2_with (first | ((with_reducible refine gate_callee (f:=38) rfl ?_);refine goesL_ (some 8) rfl rfl Tryd.func38 (by kernel_rfl) rfl #[.pointer (some ⟨g,0,none⟩), .int .i64 6] rfl (by (try simp only [List.map_toArray,List.map_cons,List.map_nil]);first | done | rfl | (simp only [List.length_drop,List.length_take];rfl)) ?_;(with_reducible refine (spec_l1src_n.calls g s0_0 s0_1 s0_2 6 t134 t135 t136 w0 _ ?side1 ?side2 A5.out).mono ?_);(case side1 => repeat (first | (with_reducible first | exact HI0.out | apply IsS80.alloc | apply IsS80.drewN | apply IsS80.drew | apply IsS80.set_1 | apply IsS80.set_2) | exact HI0.out));(case side2 => repeat (first | (with_reducible first | exact HB.out | apply below_alloc | apply pw_below_drewN | apply below_drew1 | refine below_set ?_ (IsS80.ge HI0.out)) | exact HB.out));rintro e w19 ⟨rfl,hi,hb,hk⟩;refine ⟨_,rfl, ?_⟩;have n0_:=Aside0.mk (KeepBut.trans (by repeat (first | (with_reducible first | exact HK.out | apply KeepBut.set_ | apply keep_drewN | apply keep_drew | apply keep_alloc) | exact HK.out)) hk (.inl rfl));have n1_:=Aside0.mk (hb);have n2_:=Aside0.mk (hi);clear HK;clear HB;clear HI0;have HK:=n0_;have HB:=n1_;have HI0:=n2_;clear n0_ n1_ n2_;(try clear hb);(try clear hb2);(try clear hk);(try clear hi)) | ((with_reducible refine gate_callee (f:=38) rfl ?_);refine goesL_ (some 31) rfl rfl Tryd.func38 (by kernel_rfl) rfl #[.pointer (some ⟨g,0,none⟩), .int .i64 x5_2] rfl (by (try simp only [List.map_toArray,List.map_cons,List.map_nil]);first | done | rfl | (simp only [List.length_drop,List.length_take];rfl)) ?_;(with_reducible refine (spec_l1src_n.calls g s0_0 t135 t136 x5_2 t143 t144 t145 w0 _ ?side1 ?side2 A18.out).mono ?_);(case side1 => repeat (first | (with_reducible first | exact HI0.out | apply IsS80.alloc | apply IsS80.drewN | apply IsS80.drew | apply IsS80.set_1 | apply IsS80.set_2) | exact HI0.out));(case side2 => repeat (first | (with_reducible first | exact HB.out | apply below_alloc | apply pw_below_drewN | apply below_drew1 | refine below_set ?_ (IsS80.ge HI0.out)) | exact HB.out));rintro e w20 ⟨rfl,hi,hb,hk⟩;refine ⟨_,rfl, ?_⟩;have n0_:=Aside0.mk (KeepBut.trans (by repeat (first | (with_reducible first | exact HK.out | apply KeepBut.set_ | apply keep_drewN | apply keep_drew | apply keep_alloc) | exact HK.out)) hk (.inl rfl));have n1_:=Aside0.mk (hb);have n2_:=Aside0.mk (hi);clear HK;clear HB;clear HI0;have HK:=n0_;have HB:=n1_;have HI0:=n2_;clear n0_ n1_ n2_;(try clear hb);(try clear hb2);(try clear hk);(try clear hi)))
       go_ret
       exact ⟨by first | rfl | (simp [errW_none,errW_some] <;> rfl) | (simp [*,errW_none,errW_some] <;> rfl),by repeat (first | (with_reducible first | exact HI0.out | apply IsS80.alloc | apply IsS80.drewN | apply IsS80.drew | apply IsS80.set_1 | apply IsS80.set_2) | exact HI0.out),by repeat (first | (with_reducible first | exact HB.out | apply below_alloc | apply pw_below_drewN | apply below_drew1 | refine below_set ?_ (IsS80.ge HI0.out)) | exact HB.out),by repeat (first | (with_reducible first | exact HK.out | apply KeepBut.set_ | apply keep_drewN | apply keep_drew | apply keep_alloc) | exact HK.out)⟩
def spec_l1dataLen.f (a0_0 : Bool) (a0_1 : Int) (a0_2 : Bool) (a0_3 : Int) (l0_4 : List Int) : Option (Int):=if a0_2 = true then (some 0) else (if a0_3 > 8 then (some 8) else (some a0_3))
set_option maxHeartbeats 8000000 in
set_option maxRecDepth 100000 in
theorem spec_l1dataLen.calls (a0_0 : Bool) (a0_1 : Int) (a0_2 : Bool) (a0_3 : Int) (A0_4 : Option Addr) (c0_4 : Nat) (l0_4 : List Int) (r : Int) (w : World) (hr0_4 : Kd.C (Kd.int .u8) w A0_4 l0_4.length l0_4) (hc0_4 : l0_4.length ≤ c0_4) (h : spec_l1dataLen.f a0_0 a0_1 a0_2 a0_3 l0_4 = some r) :
  Calls Tryd.prog 71 #[.agg #[.bool a0_0, .int .u32 a0_1, .bool a0_2, .int .i64 a0_3, .slice A0_4 l0_4.length c0_4]] w fun e w' => e = .returned (.int .i64 r) ∧ Below w.heap.size w w':=by
 have hu29:=Tryd.underlying29
 have HR0_4:=Aside0.mk hr0_4
 have HC0_4:=Aside0.mk hc0_4
 clear hr0_4 hc0_4
 have HB:=Aside0.mk (Below.refl w.heap.size w)
 have H : (if a0_2 = true then (some 0) else (if a0_3 > 8 then (some 8) else (some a0_3))) = some r:=h
 clear h
 by_cases c2 : a0_2 = true
 ·subst c2
  have H1 : (some 0) = some r:=by rw [if_pos rfl] at H;exact H
  clear H
  have H:=H1
  clear H1
  obtain rfl:=Option.some.inj H
  go_enter Tryd.func71,Tryd.ntmps71
  go_wp2_with (first | ((with_reducible refine gate_dst (N:=1) rfl ?_);refine box_event ?hg (N:=1) ?hd (cs := #[.bool a0_0, .int .u32 a0_1, .bool true, .int .i64 a0_3, .slice A0_4 l0_4.length c0_4]) (t:=29) ?hr ?_;(case hd => rfl);(case hg => rfl);(case hr => first | (go_simp;done) | (go_simp;rfl));intro gb146 hg w3 hbox hb;have n0_:=Aside0.mk (below_step (by repeat (first | (with_reducible first | exact HB.out | apply below_alloc | apply pw_below_drewN | apply below_drew1) | exact HB.out)) hb);have n1_:=Aside0.mk (hbox);have n2_:=Aside0.mk ((by rw [hg];exact (below_size (by repeat (first | (with_reducible first | exact HB.out | apply below_alloc | apply pw_below_drewN | apply below_drew1) | exact HB.out))) : w.heap.size ≤ gb146));have n3_:=Aside0.mk ((by rw [hg];exact (below_size (by repeat (first | (with_reducible first | exact HB.out | apply below_alloc | apply pw_below_drewN | apply below_drew1) | exact HB.out))) : w.heap.size ≤ gb146));clear HB;have HB:=n0_;have BK146:=n1_;have GW146:=n2_;have GE146:=n3_;clear n0_ n1_ n2_ n3_;clear hb hbox hg;obtain ⟨hcz4_0,hcz4_1,hcz4_2,hcz4_3,hcz4_4⟩:=bc5 BK146.out;obtain ⟨hfz4_0,hfz4_1,hfz4_2,hfz4_3,hfz4_4⟩:=bf5 BK146.out))
  go_ret
  exact ⟨by first | rfl | (simp [errW_none,errW_some] <;> rfl) | (simp [*,errW_none,errW_some] <;> rfl),by repeat (first | (with_reducible first | exact HB.out | apply below_alloc | apply pw_below_drewN | apply below_drew1 | refine below_set ?_ GE146.out) | exact HB.out)⟩
 ·replace c2:=Bool.eq_false_iff.mpr c2
  subst c2
  have H1 : (if a0_3 > 8 then (some 8) else (some a0_3)) = some r:=by rw [if_neg (show ¬ (false = true) by decide)] at H;exact H
  clear H
  have H:=H1
  clear H1
  by_cases c5 : a0_3 > 8
  ·rw [if_pos c5] at H
   have c5b0 : decide (8 < a0_3) = true:=decide_eq_true c5
   clear c5
   obtain rfl:=Option.some.inj H
   go_enter Tryd.func71,Tryd.ntmps71
   go_wp2_with (first | ((with_reducible refine gate_dst (N:=1) rfl ?_);refine box_event ?hg (N:=1) ?hd (cs := #[.bool a0_0, .int .u32 a0_1, .bool false, .int .i64 a0_3, .slice A0_4 l0_4.length c0_4]) (t:=29) ?hr ?_;(case hd => rfl);(case hg => rfl);(case hr => first | (go_simp;done) | (go_simp;rfl));intro gb146 hg w6 hbox hb;have n0_:=Aside0.mk (below_step (by repeat (first | (with_reducible first | exact HB.out | apply below_alloc | apply pw_below_drewN | apply below_drew1) | exact HB.out)) hb);have n1_:=Aside0.mk (hbox);have n2_:=Aside0.mk ((by rw [hg];exact (below_size (by repeat (first | (with_reducible first | exact HB.out | apply below_alloc | apply pw_below_drewN | apply below_drew1) | exact HB.out))) : w.heap.size ≤ gb146));have n3_:=Aside0.mk ((by rw [hg];exact (below_size (by repeat (first | (with_reducible first | exact HB.out | apply below_alloc | apply pw_below_drewN | apply below_drew1) | exact HB.out))) : w.heap.size ≤ gb146));clear HB;have HB:=n0_;have BK146:=n1_;have GW146:=n2_;have GE146:=n3_;clear n0_ n1_ n2_ n3_;clear hb hbox hg;obtain ⟨hcz7_0,hcz7_1,hcz7_2,hcz7_3,hcz7_4⟩:=bc5 BK146.out;obtain ⟨hfz7_0,hfz7_1,hfz7_2,hfz7_3,hfz7_4⟩:=bf5 BK146.out))
   go_ret
   exact ⟨by first | rfl | (simp [errW_none,errW_some] <;> rfl) | (simp [*,errW_none,errW_some] <;> rfl),by repeat (first | (with_reducible first | exact HB.out | apply below_alloc | apply pw_below_drewN | apply below_drew1 | refine below_set ?_ GE146.out) | exact HB.out)⟩
  ·rw [if_neg c5] at H
   have c5b0 : decide (8 < a0_3) = false:=decide_eq_false c5
   clear c5
   obtain rfl:=Option.some.inj H
   go_enter Tryd.func71,Tryd.ntmps71
   go_wp2_with (first | ((with_reducible refine gate_dst (N:=1) rfl ?_);refine box_event ?hg (N:=1) ?hd (cs := #[.bool a0_0, .int .u32 a0_1, .bool false, .int .i64 a0_3, .slice A0_4 l0_4.length c0_4]) (t:=29) ?hr ?_;(case hd => rfl);(case hg => rfl);(case hr => first | (go_simp;done) | (go_simp;rfl));intro gb146 hg w8 hbox hb;have n0_:=Aside0.mk (below_step (by repeat (first | (with_reducible first | exact HB.out | apply below_alloc | apply pw_below_drewN | apply below_drew1) | exact HB.out)) hb);have n1_:=Aside0.mk (hbox);have n2_:=Aside0.mk ((by rw [hg];exact (below_size (by repeat (first | (with_reducible first | exact HB.out | apply below_alloc | apply pw_below_drewN | apply below_drew1) | exact HB.out))) : w.heap.size ≤ gb146));have n3_:=Aside0.mk ((by rw [hg];exact (below_size (by repeat (first | (with_reducible first | exact HB.out | apply below_alloc | apply pw_below_drewN | apply below_drew1) | exact HB.out))) : w.heap.size ≤ gb146));clear HB;have HB:=n0_;have BK146:=n1_;have GW146:=n2_;have GE146:=n3_;clear n0_ n1_ n2_ n3_;clear hb hbox hg;obtain ⟨hcz9_0,hcz9_1,hcz9_2,hcz9_3,hcz9_4⟩:=bc5 BK146.out;obtain ⟨hfz9_0,hfz9_1,hfz9_2,hfz9_3,hfz9_4⟩:=bf5 BK146.out))
   go_ret
   exact ⟨by first | rfl | (simp [errW_none,errW_some] <;> rfl) | (simp [*,errW_none,errW_some] <;> rfl),by repeat (first | (with_reducible first | exact HB.out | apply below_alloc | apply pw_below_drewN | apply below_drew1 | refine below_set ?_ GE146.out) | exact HB.out)⟩
def spec_l1genByte.f (s0_0 : List Int) (s0_1 : Int) (s0_2 : Int) : Option (Int × Int × Int):=(spec_l1src_n.f s0_0 s0_1 s0_2 4).bind fun bt147 => (if bt147.1 = 0 then (some (0,bt147.2.1,bt147.2.2)) else (if bt147.1 = 1 then (some (255,bt147.2.1,bt147.2.2)) else ((spec_l1src_n.f s0_0 bt147.2.1 bt147.2.2 256).bind fun bt150 => (some ((bt150.1) % 256,bt150.2.1,bt150.2.2)))))
set_option maxHeartbeats 8000000 in
set_option maxRecDepth 100000 in
theorem spec_l1genByte.calls (g : Nat) (s0_0 : List Int) (s0_1 : Int) (s0_2 : Int) (r1 : Int) (r2 : Int) (r3 : Int) (w0 w : World) (hI : IsS80 w0 w g s0_0 s0_1 s0_2) (hB : Below w0.heap.size w0 w) (h : spec_l1genByte.f s0_0 s0_1 s0_2 = some (r1,r2,r3)) :
  Calls Tryd.prog 72 #[.pointer (some ⟨g,0,none⟩)] w fun e w' => e = .returned (.int .u8 r1) ∧ IsS80 w0 w' g s0_0 r2 r3 ∧ Below w0.heap.size w0 w' ∧ KeepBut w w' g none:=by
 have HI0:=Aside0.mk hI
 have HK:=Aside0.mk (KeepBut.refl w g none)
 have HL:=Aside0.mk hB.size
 clear hI
 have HW0:=Aside0.mk hB.size
 have HB:=Aside0.mk hB
 clear hB
 have H : ((spec_l1src_n.f s0_0 s0_1 s0_2 4).bind fun bt147 => (if bt147.1 = 0 then (some (0,bt147.2.1,bt147.2.2)) else (if bt147.1 = 1 then (some (255,bt147.2.1,bt147.2.2)) else ((spec_l1src_n.f s0_0 bt147.2.1 bt147.2.2 256).bind fun bt150 => (some ((bt150.1) % 256,bt150.2.1,bt150.2.2)))))) = some (r1,r2,r3):=h
 clear h
 replace H:=Option.bind_eq_some_iff.mp H
 obtain ⟨⟨t147,t148,t149⟩,A20,H⟩:=H
 replace H : (if t147 = 0 then (some (0,t148,t149)) else (if t147 = 1 then (some (255,t148,t149)) else ((spec_l1src_n.f s0_0 t148 t149 256).bind fun bt150 => (some ((bt150.1) % 256,bt150.2.1,bt150.2.2))))) = some (r1,r2,r3):=H
 have A2:=Aside0.mk A20
 clear A20
 by_cases c3 : t147 = 0
 ·rw [if_pos c3] at H
  have c3b0 : (t147 == 0) = true:=beq_iff_eq.mpr c3
  have c3b1 : (t147 != 0) = false:=bne_eq_false_iff_eq.mpr c3
  clear c3
  simp only [Option.some.injEq,Prod.mk.injEq] at H
  obtain ⟨rfl,rfl,rfl⟩:=H
  go_enter Tryd.func72,Tryd.ntmps72
  go_wp2_with (first | ((with_reducible refine gate_callee (f:=38) rfl ?_);refine goesL_ (some 4) rfl rfl Tryd.func38 (by kernel_rfl) rfl #[.pointer (some ⟨g,0,none⟩), .int .i64 4] rfl (by (try simp only [List.map_toArray,List.map_cons,List.map_nil]);first | done | rfl | (simp only [List.length_drop,List.length_take];rfl)) ?_;(with_reducible refine (spec_l1src_n.calls g s0_0 s0_1 s0_2 4 t147 t148 t149 w0 _ ?side1 ?side2 A2.out).mono ?_);(case side1 => repeat (first | (with_reducible first | exact HI0.out | apply IsS80.alloc | apply IsS80.drewN | apply IsS80.drew | apply IsS80.set_1 | apply IsS80.set_2) | exact HI0.out));(case side2 => repeat (first | (with_reducible first | exact HB.out | apply below_alloc | apply pw_below_drewN | apply below_drew1 | refine below_set ?_ (IsS80.ge HI0.out)) | exact HB.out));rintro e w4 ⟨rfl,hi,hb,hk⟩;refine ⟨_,rfl, ?_⟩;have n0_:=Aside0.mk (KeepBut.trans (by repeat (first | (with_reducible first | exact HK.out | apply KeepBut.set_ | apply keep_drewN | apply keep_drew | apply keep_alloc) | exact HK.out)) hk (.inl rfl));have n1_:=Aside0.mk (hb);have n2_:=Aside0.mk (hi);clear HK;clear HB;clear HI0;have HK:=n0_;have HB:=n1_;have HI0:=n2_;clear n0_ n1_ n2_;(try clear hb);(try clear hb2);(try clear hk);(try clear hi)))
  go_ret
  exact ⟨by first | rfl | (simp [errW_none,errW_some] <;> rfl) | (simp [*,errW_none,errW_some] <;> rfl),by repeat (first | (with_reducible first | exact HI0.out | apply IsS80.alloc | apply IsS80.drewN | apply IsS80.drew | apply IsS80.set_1 | apply IsS80.set_2) | exact HI0.out),by repeat (first | (with_reducible first | exact HB.out | apply below_alloc | apply pw_below_drewN | apply below_drew1 | refine below_set ?_ (IsS80.ge HI0.out)) | exact HB.out),by repeat (first | (with_reducible first | exact HK.out | apply KeepBut.set_ | apply keep_drewN | apply keep_drew | apply keep_alloc) | exact HK.out)⟩
 ·rw [if_neg c3] at H
  have c3b0 : (t147 == 0) = false:=beq_eq_false_iff_ne.mpr c3
  have c3b1 : (t147 != 0) = true:=bne_iff_ne.mpr c3
  by_cases c5 : t147 = 1
  ·rw [if_pos c5] at H
   have c5b0 : (t147 == 1) = true:=beq_iff_eq.mpr c5
   have c5b1 : (t147 != 1) = false:=bne_eq_false_iff_eq.mpr c5
   clear c5
   simp only [Option.some.injEq,Prod.mk.injEq] at H
   obtain ⟨rfl,rfl,rfl⟩:=H
   go_enter Tryd.func72,Tryd.ntmps72
   go_wp2_with (first | ((with_reducible refine gate_callee (f:=38) rfl ?_);refine goesL_ (some 4) rfl rfl Tryd.func38 (by kernel_rfl) rfl #[.pointer (some ⟨g,0,none⟩), .int .i64 4] rfl (by (try simp only [List.map_toArray,List.map_cons,List.map_nil]);first | done | rfl | (simp only [List.length_drop,List.length_take];rfl)) ?_;(with_reducible refine (spec_l1src_n.calls g s0_0 s0_1 s0_2 4 t147 t148 t149 w0 _ ?side1 ?side2 A2.out).mono ?_);(case side1 => repeat (first | (with_reducible first | exact HI0.out | apply IsS80.alloc | apply IsS80.drewN | apply IsS80.drew | apply IsS80.set_1 | apply IsS80.set_2) | exact HI0.out));(case side2 => repeat (first | (with_reducible first | exact HB.out | apply below_alloc | apply pw_below_drewN | apply below_drew1 | refine below_set ?_ (IsS80.ge HI0.out)) | exact HB.out));rintro e w6 ⟨rfl,hi,hb,hk⟩;refine ⟨_,rfl, ?_⟩;have n0_:=Aside0.mk (KeepBut.trans (by repeat (first | (with_reducible first | exact HK.out | apply KeepBut.set_ | apply keep_drewN | apply keep_drew | apply keep_alloc) | exact HK.out)) hk (.inl rfl));have n1_:=Aside0.mk (hb);have n2_:=Aside0.mk (hi);clear HK;clear HB;clear HI0;have HK:=n0_;have HB:=n1_;have HI0:=n2_;clear n0_ n1_ n2_;(try clear hb);(try clear hb2);(try clear hk);(try clear hi)))
   go_ret
   exact ⟨by first | rfl | (simp [errW_none,errW_some] <;> rfl) | (simp [*,errW_none,errW_some] <;> rfl),by repeat (first | (with_reducible first | exact HI0.out | apply IsS80.alloc | apply IsS80.drewN | apply IsS80.drew | apply IsS80.set_1 | apply IsS80.set_2) | exact HI0.out),by repeat (first | (with_reducible first | exact HB.out | apply below_alloc | apply pw_below_drewN | apply below_drew1 | refine below_set ?_ (IsS80.ge HI0.out)) | exact HB.out),by repeat (first | (with_reducible first | exact HK.out | apply KeepBut.set_ | apply keep_drewN | apply keep_drew | apply keep_alloc) | exact HK.out)⟩
  ·rw [if_neg c5] at H
   have c5b0 : (t147 == 1) = false:=beq_eq_false_iff_ne.mpr c5
   have c5b1 : (t147 != 1) = true:=bne_iff_ne.mpr c5
   replace H:=Option.bind_eq_some_iff.mp H
   obtain ⟨⟨t150,t151,t152⟩,A70,H⟩:=H
   replace H : (some ((t150) % 256,t151,t152)) = some (r1,r2,r3):=H
   have A7:=Aside0.mk A70
   clear A70
   simp only [Option.some.injEq,Prod.mk.injEq] at H
   obtain ⟨rfl,rfl,rfl⟩:=H
   go_enter Tryd.func72,Tryd.ntmps72
   go_wp2_with (first | ((with_reducible refine gate_callee (f:=38) rfl ?_);refine goesL_ (some 4) rfl rfl Tryd.func38 (by kernel_rfl) rfl #[.pointer (some ⟨g,0,none⟩), .int .i64 4] rfl (by (try simp only [List.map_toArray,List.map_cons,List.map_nil]);first | done | rfl | (simp only [List.length_drop,List.length_take];rfl)) ?_;(with_reducible refine (spec_l1src_n.calls g s0_0 s0_1 s0_2 4 t147 t148 t149 w0 _ ?side1 ?side2 A2.out).mono ?_);(case side1 => repeat (first | (with_reducible first | exact HI0.out | apply IsS80.alloc | apply IsS80.drewN | apply IsS80.drew | apply IsS80.set_1 | apply IsS80.set_2) | exact HI0.out));(case side2 => repeat (first | (with_reducible first | exact HB.out | apply below_alloc | apply pw_below_drewN | apply below_drew1 | refine below_set ?_ (IsS80.ge HI0.out)) | exact HB.out));rintro e w8 ⟨rfl,hi,hb,hk⟩;refine ⟨_,rfl, ?_⟩;have n0_:=Aside0.mk (KeepBut.trans (by repeat (first | (with_reducible first | exact HK.out | apply KeepBut.set_ | apply keep_drewN | apply keep_drew | apply keep_alloc) | exact HK.out)) hk (.inl rfl));have n1_:=Aside0.mk (hb);have n2_:=Aside0.mk (hi);clear HK;clear HB;clear HI0;have HK:=n0_;have HB:=n1_;have HI0:=n2_;clear n0_ n1_ n2_;(try clear hb);(try clear hb2);(try clear hk);(try clear hi)) | ((with_reducible refine gate_callee (f:=38) rfl ?_);refine goesL_ (some 10) rfl rfl Tryd.func38 (by kernel_rfl) rfl #[.pointer (some ⟨g,0,none⟩), .int .i64 256] rfl (by (try simp only [List.map_toArray,List.map_cons,List.map_nil]);first | done | rfl | (simp only [List.length_drop,List.length_take];rfl)) ?_;(with_reducible refine (spec_l1src_n.calls g s0_0 t148 t149 256 t150 t151 t152 w0 _ ?side1 ?side2 A7.out).mono ?_);(case side1 => repeat (first | (with_reducible first | exact HI0.out | apply IsS80.alloc | apply IsS80.drewN | apply IsS80.drew | apply IsS80.set_1 | apply IsS80.set_2) | exact HI0.out));(case side2 => repeat (first | (with_reducible first | exact HB.out | apply below_alloc | apply pw_below_drewN | apply below_drew1 | refine below_set ?_ (IsS80.ge HI0.out)) | exact HB.out));rintro e w9 ⟨rfl,hi,hb,hk⟩;refine ⟨_,rfl, ?_⟩;have n0_:=Aside0.mk (KeepBut.trans (by repeat (first | (with_reducible first | exact HK.out | apply KeepBut.set_ | apply keep_drewN | apply keep_drew | apply keep_alloc) | exact HK.out)) hk (.inl rfl));have n1_:=Aside0.mk (hb);have n2_:=Aside0.mk (hi);clear HK;clear HB;clear HI0;have HK:=n0_;have HB:=n1_;have HI0:=n2_;clear n0_ n1_ n2_;(try clear hb);(try clear hb2);(try clear hk);(try clear hi)))
   go_ret
   exact ⟨by first | rfl | (simp [errW_none,errW_some] <;> rfl) | (simp [*,errW_none,errW_some] <;> rfl),by repeat (first | (with_reducible first | exact HI0.out | apply IsS80.alloc | apply IsS80.drewN | apply IsS80.drew | apply IsS80.set_1 | apply IsS80.set_2) | exact HI0.out),by repeat (first | (with_reducible first | exact HB.out | apply below_alloc | apply pw_below_drewN | apply below_drew1 | refine below_set ?_ (IsS80.ge HI0.out)) | exact HB.out),by repeat (first | (with_reducible first | exact HK.out | apply KeepBut.set_ | apply keep_drewN | apply keep_drew | apply keep_alloc) | exact HK.out)⟩
end Go.Proofs.YtdoclpgciadjaaaDoor.P
