/- What the memory's functions compute: contracts: New. The rows of all leaves, where there is one leaf: contracts: leftmost, Scan. -/
import Derived.Test.YthidclcliflhkaaGreatZ06
import Derived.Test.YthidclcliflhkaaGreatZ09
import Derived.Test.YthidclcliflhkaaGreatZ15
import Derived.WalkMore
section
open Go Go.RowKit
namespace Go.Proofs.YthidclcliflhkaaGreat

def baseRec : Rl.Rec := { kind := 1, unb := true }
theorem baseRec_ok : RecOk baseRec := ⟨by decide, by decide, by decide, by decide, by decide, ⟨by decide, by simp [baseRec]⟩, by decide⟩
set_option maxRecDepth 100000 in
theorem mright_ok (a0 a1 a2 a3 a4 a5 : Int) (w : World) (h0 : 4 ≤ a0 ∧ a0 ≤ 4096) (h1 : 3 ≤ a1 ∧ a1 ≤ 256) (h2 : 1 ≤ a2 ∧ a2 ≤ 64) (h3 : 2 ≤ a3 ∧ a3 ≤ 64) (h4 : 2 ≤ a4 ∧ a4 ≤ 64) (h5 : 8 ≤ a5 ∧ a5 ≤ 1099511627776) :
    Calls Tryz.prog 23 #[.agg #[.int .i64 a0, .int .i64 a1, .int .i64 a2, .int .i64 a3, .int .i64 a4, .int .i64 a5]] w (RetB (.bool true) w) := by
  obtain ⟨h00, h01⟩ := h0
  obtain ⟨h10, h11⟩ := h1
  obtain ⟨h20, h21⟩ := h2
  obtain ⟨h30, h31⟩ := h3
  obtain ⟨h40, h41⟩ := h4
  obtain ⟨h50, h51⟩ := h5
  go_enter Tryz.func23, Tryz.ntmps23
  go_wp2_with go_in
  go_ret
  exact ⟨rfl, (by repeat' (first | (with_reducible exact Below.refl _ _) | (with_reducible assumption) | (with_reducible refine Below.alloc ?_ ?_ _) | (with_reducible refine below_drewN ?_ _) | (with_reducible refine Below.drew ?_) | (with_reducible refine Below.setCell ?_ ?_ _) | go_size))⟩
theorem aalloc_first (ba bs : Nat) (ns : Nat) (cnt : Int) (w : World) (hA : ArenaAt w ba bs (List.replicate ns slot0) cnt) (h0 : 4 ≤ ns ∧ ns ≤ 4096) (h5 : 8 ≤ cnt ∧ cnt ≤ 1099511627776) :
    Calls Tryz.prog 27 #[.pointer (some ⟨ba, 0, none⟩), .agg #[.int .i64 1, .string ⟨#[]⟩, .string ⟨#[]⟩, .bool true, .int .i64 0, .slice none 0 0, .slice none 0 0, .string ⟨#[]⟩, .string ⟨#[]⟩, .int .i64 0, .int .i64 0, .int .i64 0, .string ⟨#[]⟩, .int .i64 0, .int .i64 0]] w
      fun e w' => ∃ rv' ev', e = .returned (.tuple #[.agg #[.int .i64 1, .int .i64 1], .nilIface]) ∧ ArenaAt w' ba bs ((List.replicate ns slot0).set 0 ⟨⟨1, true, baseRec⟩, rv', ev'⟩) cnt ∧ Fr [bs] w w' := by
  have h := aalloc_any ba bs (List.replicate ns slot0) cnt baseRec (.slice none 0 0) (.slice none 0 0) 0 w hA ⟨OwnV.nil _ _, OwnE.nil _ _⟩ baseRec_ok (by simp; omega) (by simp; omega) (by omega) (by simp [slot0]) (by simp [slot0]; omega) h5.2 (by simp [slot0])
  refine Calls.mono h ?_
  rintro e w' ⟨rv, ev, he, h1, h2⟩
  have e1 : (List.replicate ns slot0)[0]'(by simp; omega) = slot0 := List.getElem_replicate _
  rw [e1] at he h1
  exact ⟨rv, ev, he, h1, h2⟩
theorem ttake_first (bt bp : Nat) (np : Nat) (w : World) (hT : TableAt w bt bp (List.replicate np {})) (h1 : 3 ≤ np ∧ np ≤ 256) :
    Calls Tryz.prog 28 #[.pointer (some ⟨bt, 0, none⟩)] w fun e w' => e = .returned (.tuple #[.int .i64 0, .nilIface]) ∧ TableAt w' bt bp ((List.replicate np {}).set 0 ⟨true, ⟨0, 0⟩⟩) ∧ Fr [bp] w w' :=
  ttake_any bt bp (List.replicate np {}) 0 w hT (by simp; omega) (by simp; omega) (by omega) (by simp)
theorem tswap_first (bt bp : Nat) (np : Nat) (w : World) (hT : TableAt w bt bp ((List.replicate np {}).set 0 ⟨true, ⟨0, 0⟩⟩)) (h1 : 3 ≤ np ∧ np ≤ 256) :
    Calls Tryz.prog 29 #[.pointer (some ⟨bt, 0, none⟩), .int .i64 0, .agg #[.int .i64 0, .int .i64 0], .agg #[.int .i64 1, .int .i64 1]] w
      fun e w' => e = .returned (.tuple #[.bool true, .nilIface]) ∧ TableAt w' bt bp ((List.replicate np {}).set 0 ⟨true, ⟨1, 1⟩⟩) ∧ Fr [bp] w w' := by
  have h := tswap_ok bt bp ((List.replicate np {}).set 0 ⟨true, ⟨0, 0⟩⟩) 0 0 0 1 1 w hT (by simp; omega) (by simp; omega) (by simp) (by simp)
  rw [List.set_set] at h
  exact h
set_option maxRecDepth 100000 in
set_option maxHeartbeats 2000000 in
theorem mnew_any (ns np : Nat) (nt nr nch cnt : Int) (w : World) (h0 : 4 ≤ ns ∧ ns ≤ 4096) (h1 : 3 ≤ np ∧ np ≤ 256) (h2 : 1 ≤ nt ∧ nt ≤ 64) (h3 : 2 ≤ nr ∧ nr ≤ 64) (h4 : 2 ≤ nch ∧ nch ≤ 64) (h5 : 8 ≤ cnt ∧ cnt ≤ 1099511627776) :
    Calls Tryz.prog 15 #[.agg #[.int .i64 ns, .int .i64 np, .int .i64 nt, .int .i64 nr, .int .i64 nch, .int .i64 cnt]] w fun e w' => ∃ (b : MB) (rv ev : Value), e = .returned (.tuple #[.pointer (some ⟨b.m, 0, none⟩), .nilIface]) ∧
      MemAt w' b ⟨ns, np, nt, nr, nch, cnt⟩ 0 ((List.replicate ns slot0).set 0 ⟨⟨1, true, baseRec⟩, rv, ev⟩) ((List.replicate np {}).set 0 ⟨true, ⟨1, 1⟩⟩) 1 0 (.map []) ∧ Below w.heap.size w w' ∧ (∀ g ∈ b.F, w.heap.size ≤ g) := by
  go_enter Tryz.func15, Tryz.ntmps15
  go_wp2_with (go_at_call 23
               refine (mright_ok _ _ _ _ _ _ _ (by omega) (by omega) h2 h3 h4 h5).mono ?_
               rintro e w1 ⟨rfl, hb1⟩
               have hX1 := Lib.hid (Blk.below (Blk.new_at (b := w.heap.size) rfl) hb1 (by first | (simp; done) | (simp; omega) | omega))
               have hx1 := hX1.out.lt
               have hb1 : Below w.heap.size w w1 := below_to (by repeat' (first | (with_reducible exact Below.refl _ _) | (with_reducible assumption) | (with_reducible refine Below.alloc ?_ ?_ _) | (with_reducible refine below_drewN ?_ _) | (with_reducible refine Below.drew ?_) | (with_reducible refine Below.setCell ?_ ?_ _) | go_size)) hb1
               have hcX := fun i => hX1.out.cell i)
  refine wp_region_head 16 (fun w' => Below w1.heap.size w1 w') (by kernel_rfl) (by kernel_rfl) ?_
  (refine HW.q (i := 0) rfl (by kernel_rfl) (fun _ _ _ _ h => h) ?_ ?_; (focus ((try dsimp only); exact (by repeat' (first | (with_reducible exact Below.refl _ _) | (with_reducible assumption) | (with_reducible refine Below.alloc ?_ ?_ _) | (with_reducible refine below_drewN ?_ _) | (with_reducible refine Below.drew ?_) | (with_reducible refine Below.setCell ?_ ?_ _) | go_size)))); intro K hK; go_simp; apply Exists.intro; refine ⟨fun w2 hw2 => ?_, hK _ ?_⟩; (focus (obtain ⟨hc2, hf2⟩ := bcell hw2; go_simp; first | done | rfl)); clear hK K)
  (refine HW.q (i := 1) rfl (by kernel_rfl) (fun _ _ _ _ h => h) ?_ ?_; (focus ((try dsimp only); exact (by repeat' (first | (with_reducible exact Below.refl _ _) | (with_reducible assumption) | (with_reducible refine Below.alloc ?_ ?_ _) | (with_reducible refine below_drewN ?_ _) | (with_reducible refine Below.drew ?_) | (with_reducible refine Below.setCell ?_ ?_ _) | go_size)))); intro K hK; go_simp; first | (refine hK _ ?_; clear hK K) | (refine ⟨_, fun _ _ => rfl, hK _ ?_⟩; clear hK K))
  (refine HW.q (i := 2) rfl (by kernel_rfl) (fun _ _ _ _ h => h) ?_ ?_; (focus ((try dsimp only); exact (by repeat' (first | (with_reducible exact Below.refl _ _) | (with_reducible assumption) | (with_reducible refine Below.alloc ?_ ?_ _) | (with_reducible refine below_drewN ?_ _) | (with_reducible refine Below.drew ?_) | (with_reducible refine Below.setCell ?_ ?_ _) | go_size)))); intro K hK; go_simp; apply Exists.intro; refine ⟨fun w2 hw2 => ?_, hK _ ?_⟩; (focus (obtain ⟨hc2, hf2⟩ := bcell hw2; go_simp; first | done | rfl)); clear hK K)
  (refine HW.q (i := 3) rfl (by kernel_rfl) (fun _ _ _ _ h => h) ?_ ?_; (focus ((try dsimp only); exact (by repeat' (first | (with_reducible exact Below.refl _ _) | (with_reducible assumption) | (with_reducible refine Below.alloc ?_ ?_ _) | (with_reducible refine below_drewN ?_ _) | (with_reducible refine Below.drew ?_) | (with_reducible refine Below.setCell ?_ ?_ _) | go_size)))); intro K hK; go_simp; first | (refine hK _ ?_; clear hK K) | (refine ⟨_, fun _ _ => rfl, hK _ ?_⟩; clear hK K))
  (refine HW.q (i := 4) rfl (by kernel_rfl) (fun _ _ _ _ h => h) ?_ ?_; (focus ((try dsimp only); exact (by repeat' (first | (with_reducible exact Below.refl _ _) | (with_reducible assumption) | (with_reducible refine Below.alloc ?_ ?_ _) | (with_reducible refine below_drewN ?_ _) | (with_reducible refine Below.drew ?_) | (with_reducible refine Below.setCell ?_ ?_ _) | go_size)))); intro K hK; go_simp; apply Exists.intro; refine ⟨fun w2 hw2 => ?_, hK _ ?_⟩; (focus (obtain ⟨hc2, hf2⟩ := bcell hw2; go_simp; first | done | rfl)); clear hK K)
  (refine HW.q (i := 6) rfl (by kernel_rfl) (fun _ _ _ _ h => h) ?_ ?_; (focus ((try dsimp only); exact (by repeat' (first | (with_reducible exact Below.refl _ _) | (with_reducible assumption) | (with_reducible refine Below.alloc ?_ ?_ _) | (with_reducible refine below_drewN ?_ _) | (with_reducible refine Below.drew ?_) | (with_reducible refine Below.setCell ?_ ?_ _) | go_size)))); intro K hK; go_simp; first | (refine hK _ ?_; clear hK K) | (refine ⟨_, fun _ _ => rfl, hK _ ?_⟩; clear hK K))
  (refine HW.q (i := 7) rfl (by kernel_rfl) (fun _ _ _ _ h => h) ?_ ?_; (focus ((try dsimp only); exact (by repeat' (first | (with_reducible exact Below.refl _ _) | (with_reducible assumption) | (with_reducible refine Below.alloc ?_ ?_ _) | (with_reducible refine below_drewN ?_ _) | (with_reducible refine Below.drew ?_) | (with_reducible refine Below.setCell ?_ ?_ _) | go_size)))); intro K hK; go_simp; apply Exists.intro; refine ⟨fun w2 hw2 => ?_, hK _ ?_⟩; (focus (obtain ⟨hc2, hf2⟩ := bcell hw2; go_simp; first | done | rfl)); clear hK K)
  (refine HW.q (i := 9) rfl (by kernel_rfl) (fun _ _ _ _ h => h) ?_ ?_; (focus ((try dsimp only); exact (by repeat' (first | (with_reducible exact Below.refl _ _) | (with_reducible assumption) | (with_reducible refine Below.alloc ?_ ?_ _) | (with_reducible refine below_drewN ?_ _) | (with_reducible refine Below.drew ?_) | (with_reducible refine Below.setCell ?_ ?_ _) | go_size)))); intro K hK; go_simp; first | (refine hK _ ?_; clear hK K) | (refine ⟨_, fun _ _ => rfl, hK _ ?_⟩; clear hK K))
  (refine HW.q (i := 10) rfl (by kernel_rfl) (fun _ _ _ _ h => h) ?_ ?_; (focus ((try dsimp only); exact (by repeat' (first | (with_reducible exact Below.refl _ _) | (with_reducible assumption) | (with_reducible refine Below.alloc ?_ ?_ _) | (with_reducible refine below_drewN ?_ _) | (with_reducible refine Below.drew ?_) | (with_reducible refine Below.setCell ?_ ?_ _) | go_size)))); intro K hK; go_simp; apply Exists.intro; refine ⟨fun w2 hw2 => ?_, hK _ ?_⟩; (focus (obtain ⟨hc2, hf2⟩ := bcell hw2; go_simp; first | done | rfl)); clear hK K)
  (refine HW.q (i := 11) rfl (by kernel_rfl) (fun _ _ _ _ h => h) ?_ ?_; (focus ((try dsimp only); exact (by repeat' (first | (with_reducible exact Below.refl _ _) | (with_reducible assumption) | (with_reducible refine Below.alloc ?_ ?_ _) | (with_reducible refine below_drewN ?_ _) | (with_reducible refine Below.drew ?_) | (with_reducible refine Below.setCell ?_ ?_ _) | go_size)))); intro K hK; go_simp; first | (refine hK _ ?_; clear hK K) | (refine ⟨_, fun _ _ => rfl, hK _ ?_⟩; clear hK K))
  (refine HW.q (i := 12) rfl (by kernel_rfl) (fun _ _ _ _ h => h) ?_ ?_; (focus ((try dsimp only); exact (by repeat' (first | (with_reducible exact Below.refl _ _) | (with_reducible assumption) | (with_reducible refine Below.alloc ?_ ?_ _) | (with_reducible refine below_drewN ?_ _) | (with_reducible refine Below.drew ?_) | (with_reducible refine Below.setCell ?_ ?_ _) | go_size)))); intro K hK; go_simp; apply Exists.intro; refine ⟨fun w2 hw2 => ?_, hK _ ?_⟩; (focus (obtain ⟨hc2, hf2⟩ := bcell hw2; go_simp; first | done | rfl)); clear hK K)
  (refine HW.solo (i := 5) rfl (by kernel_rfl) (by kernel_rfl) ?_; intro K hK; go_simp)
  go_at_call 24
  refine (anew_any ns cnt _ (by omega) h0.2 (by omega) h5.2).mono ?_
  rintro e w2 ⟨ba, bs, rfl, hA2, hba, hbs, hb2⟩
  have hb2 : Below w1.heap.size w1 w2 := ⟨hb2.os, hb2.tape, hb2.output, hb2.size, hb2.block⟩
  refine hK _ _ hb2 ?_
  clear hK K
  (refine HW.solo (i := 8) rfl (by kernel_rfl) (by kernel_rfl) ?_; intro K hK; go_simp)
  go_at_call 25
  refine (tnew_any np _ (by omega) h1.2).mono ?_
  rintro e w3 ⟨bt, bp, rfl, hT3, hbt, hbp, hb3⟩
  have hA3 := hA2.fr (Fr.of_below hb3 []) (by simp) (by simp) (freeOf_nil _ _) (freeOf_nil _ _)
  have hs2 := hb2.size
  have hb3' : Below w1.heap.size w1 w3 := hb2.trans (hb3.mono hs2)
  refine hK _ _ hb3' ?_
  clear hK K
  (refine HW.solo (i := 13) rfl (by kernel_rfl) (by kernel_rfl) ?_; intro K hK; go_simp)
  go_at_call 26
  refine (cnew_any nt cnt _ h2.1 h2.2 (by omega) h5.2).mono ?_
  rintro e w4 ⟨bc, bi, rfl, hC4, hbc, hbi, hb4⟩
  have hA4 := hA3.fr (Fr.of_below hb4 []) (by simp) (by simp) (freeOf_nil _ _) (freeOf_nil _ _)
  have hT4 := hT3.fr (Fr.of_below hb4 []) (by simp) (by simp)
  have hs3 := hb3.size
  have hb4' : Below w1.heap.size w1 w4 := hb3'.trans (hb4.mono (by omega))
  refine hK _ _ hb4' ?_
  clear hK K
  have hs4 := hb4.size
  (refine HW.q (i := 14) rfl (by kernel_rfl) (fun _ _ _ _ h => h) ?_ ?_; (focus ((try dsimp only); exact (by repeat' (first | (with_reducible exact Below.refl _ _) | (with_reducible assumption) | (with_reducible refine Below.alloc ?_ ?_ _) | (with_reducible refine below_drewN ?_ _) | (with_reducible refine Below.drew ?_) | (with_reducible refine Below.setCell ?_ ?_ _) | go_size)))); intro K hK; go_simp; first | (refine hK _ ?_; clear hK K) | (refine ⟨_, fun _ _ => rfl, hK _ ?_⟩; clear hK K))
  (refine HW.solo (i := 15) rfl (by kernel_rfl) (by kernel_rfl) ?_; intro K hK; go_simp)
  refine hK _ _ (by repeat' (first | (with_reducible exact Below.refl _ _) | (with_reducible assumption) | (with_reducible refine Below.alloc ?_ ?_ _) | (with_reducible refine below_drewN ?_ _) | (with_reducible refine Below.drew ?_) | (with_reducible refine Below.setCell ?_ ?_ _) | go_size)) ?_
  clear hK K
  refine HW.done (by kernel_rfl) ?_
  simp only [List.drop_succ_cons, List.drop_zero]
  have hM4 : MemAt (w4.alloc (.cells (memCells ⟨w4.heap.size, ba, bs, bt, bp, bc, bi⟩ ⟨ns, np, nt, nr, nch, cnt⟩ 0) 79)) ⟨w4.heap.size, ba, bs, bt, bp, bc, bi⟩ ⟨ns, np, nt, nr, nch, cnt⟩ 0 (List.replicate ns slot0) (List.replicate np {}) 1 0 (.map []) :=
    have hf : Fr [] w4 (w4.alloc (.cells (memCells ⟨w4.heap.size, ba, bs, bt, bp, bc, bi⟩ ⟨ns, np, nt, nr, nch, cnt⟩ 0) 79)) := (Fr.refl _ _).alloc _
    ⟨Blk.new_at rfl, hA4.fr hf (by simp) (by simp) (freeOf_nil _ _) (freeOf_nil _ _), hT4.fr hf (by simp) (by simp), hC4.fr hf (by simp) (by simp)⟩
  have hbV : Below w1.heap.size w1 (w4.alloc (.cells (memCells ⟨w4.heap.size, ba, bs, bt, bp, bc, bi⟩ ⟨ns, np, nt, nr, nch, cnt⟩ 0) 79)) := hb4'.alloc (by omega) _
  obtain ⟨V, HV⟩ : ∃ V, Hid (w4.alloc (.cells (memCells ⟨w4.heap.size, ba, bs, bt, bp, bc, bi⟩ ⟨ns, np, nt, nr, nch, cnt⟩ 0) 79) = V) := ⟨_, Lib.hid rfl⟩
  obtain ⟨bm, Hbm⟩ : ∃ bm, Hid (w4.heap.size = bm) := ⟨_, Lib.hid rfl⟩
  have hbm : w.heap.size ≤ bm := by have := hb1.size; have := Hbm.out; omega
  have hsz1 := hb1.size
  have hba : w.heap.size ≤ ba := Nat.le_trans hsz1 hba
  have hbs : w.heap.size ≤ bs := Nat.le_trans hsz1 hbs
  have hbt : w.heap.size ≤ bt := by omega
  have hbp : w.heap.size ≤ bp := by omega
  have hbc : w.heap.size ≤ bc := by omega
  have hbi : w.heap.size ≤ bi := by omega
  rw [HV.out] at hM4 hbV
  simp only [memCells] at HV
  rw [HV.out, Hbm.out]
  rw [Hbm.out] at hM4
  clear HV Hbm hA4 hT4 hC4 hA3 hA2 hT3 hcX hb4' hb3' hb2 hb3 hb4
  have hbW : Below w.heap.size w V := hb1.trans (hbV.mono hsz1)
  clear hb1 hbV hX1 hx1
  have HM := Lib.hid hM4
  have hcM := fun i => hM4.m.cell i
  simp only [memCells] at hcM
  have hbmV := hM4.m.lt
  clear hM4
  have hM1 := HM.out.a
  go_wp2_with (first
    | (go_at_call 27
       refine (aalloc_first ba bs ns cnt _ (HM.out.below (by repeat' (first | (with_reducible exact Below.refl _ _) | (with_reducible assumption) | (with_reducible refine Below.alloc ?_ ?_ _) | (with_reducible refine below_drewN ?_ _) | (with_reducible refine Below.drew ?_) | (with_reducible refine Below.setCell ?_ ?_ _) | go_size))).a h0 h5).mono ?_
       rintro e w5 ⟨rv, ev, rfl, hA5, hF5⟩
       have hM5 := Lib.hid (HM.out.arena hA5 hF5)
       have hs5 := hF5.size
       have hbm5 : bm < w5.heap.size := by omega
       have hc5 := fun i => hM5.out.m.cell i
       simp only [memCells] at hc5)
    | (go_at_call 28
       refine (ttake_first bt bp np _ (hM5.out.below (by repeat' (first | (with_reducible exact Below.refl _ _) | (with_reducible assumption) | (with_reducible refine Below.alloc ?_ ?_ _) | (with_reducible refine below_drewN ?_ _) | (with_reducible refine Below.drew ?_) | (with_reducible refine Below.setCell ?_ ?_ _) | go_size))).t h1).mono ?_
       rintro e w6 ⟨rfl, hT6, hF6⟩
       have hM6 := Lib.hid ((hM5.out.below (w1 := w5.alloc (.cells #[.int .i64 1, .int .i64 1] 55)) (by repeat' (first | (with_reducible exact Below.refl _ _) | (with_reducible assumption) | (with_reducible refine Below.alloc ?_ ?_ _) | (with_reducible refine below_drewN ?_ _) | (with_reducible refine Below.drew ?_) | (with_reducible refine Below.setCell ?_ ?_ _) | go_size))).table hT6 hF6)
       have hY0 : Blk (w5.alloc (.cells #[.int .i64 1, .int .i64 1] 55)) w5.heap.size 55 #[.int .i64 1, .int .i64 1] := Blk.new_at rfl
       have hY6 := Lib.hid (hF6.blk hY0 (by simpa using Blk.ne_ hY0 (hM5.out.below (w1 := w5.alloc (.cells #[.int .i64 1, .int .i64 1] 55)) (by repeat' (first | (with_reducible exact Below.refl _ _) | (with_reducible assumption) | (with_reducible refine Below.alloc ?_ ?_ _) | (with_reducible refine below_drewN ?_ _) | (with_reducible refine Below.drew ?_) | (with_reducible refine Below.setCell ?_ ?_ _) | go_size))).t.p (by decide)))
       have hs6 := hF6.size
       have hc6 := fun i => hM6.out.m.cell i
       simp only [memCells] at hc6))
  have hsz6 : w5.heap.size < w6.heap.size := hY6.out.lt
  have hbm6 : bm < w6.heap.size := by omega
  have hcY := fun i => hY6.out.cell i
  have hn1 : bm ≠ bp := Blk.ne_ hM6.out.m hM6.out.t.p (by decide)
  have hn2 : w5.heap.size ≠ bp := Blk.ne_ hY6.out hM6.out.t.p (by decide)
  refine wp_region_head 12 (fun w' => Fr [bp] w6 w') (by kernel_rfl) (by kernel_rfl) ?_
  (refine HW.q (i := 0) rfl (by kernel_rfl) (fun _ _ _ _ h => h) ?_ ?_; (focus ((try dsimp only); exact (by repeat' (first | (with_reducible exact Fr.refl _ _) | (with_reducible assumption) | (with_reducible refine Fr.drew ?_) | (with_reducible refine Fr.drewN ?_ _) | (with_reducible refine Fr.alloc ?_ _))))); intro K hK; go_simp; first | (refine hK _ ?_; clear hK K) | (refine ⟨_, fun _ _ => rfl, hK _ ?_⟩; clear hK K))
  (refine HW.q (i := 1) rfl (by kernel_rfl) (fun _ _ _ _ h => h) ?_ ?_; (focus ((try dsimp only); exact (by repeat' (first | (with_reducible exact Fr.refl _ _) | (with_reducible assumption) | (with_reducible refine Fr.drew ?_) | (with_reducible refine Fr.drewN ?_ _) | (with_reducible refine Fr.alloc ?_ _))))); intro K hK; go_simp; first | (refine hK _ ?_; clear hK K) | (refine ⟨_, fun _ _ => rfl, hK _ ?_⟩; clear hK K))
  (refine HW.q (i := 2) rfl (by kernel_rfl) (fun _ _ _ _ h => h) ?_ ?_; (focus ((try dsimp only); exact (by repeat' (first | (with_reducible exact Fr.refl _ _) | (with_reducible assumption) | (with_reducible refine Fr.drew ?_) | (with_reducible refine Fr.drewN ?_ _) | (with_reducible refine Fr.alloc ?_ _))))); intro K hK; go_simp; first | (refine hK _ ?_; clear hK K) | (refine ⟨_, fun _ _ => rfl, hK _ ?_⟩; clear hK K))
  (refine HW.q (i := 3) rfl (by kernel_rfl) (fun _ _ _ _ h => h) ?_ ?_; (focus ((try dsimp only); exact (by repeat' (first | (with_reducible exact Fr.refl _ _) | (with_reducible assumption) | (with_reducible refine Fr.drew ?_) | (with_reducible refine Fr.drewN ?_ _) | (with_reducible refine Fr.alloc ?_ _))))); intro K hK; go_simp; apply Exists.intro; refine ⟨fun w2 hw2 => ?_, hK _ ?_⟩; (focus (obtain ⟨hc2, hf2⟩ := frcell hw2; go_simp; first | done | rfl)); clear hK K)
  (refine HW.q (i := 4) rfl (by kernel_rfl) (fun _ _ _ _ h => h) ?_ ?_; (focus ((try dsimp only); exact (by repeat' (first | (with_reducible exact Fr.refl _ _) | (with_reducible assumption) | (with_reducible refine Fr.drew ?_) | (with_reducible refine Fr.drewN ?_ _) | (with_reducible refine Fr.alloc ?_ _))))); intro K hK; go_simp; first | (refine hK _ ?_; clear hK K) | (refine ⟨_, fun _ _ => rfl, hK _ ?_⟩; clear hK K))
  (refine HW.q (i := 5) rfl (by kernel_rfl) (fun _ _ _ _ h => h) ?_ ?_; (focus ((try dsimp only); exact (by repeat' (first | (with_reducible exact Fr.refl _ _) | (with_reducible assumption) | (with_reducible refine Fr.drew ?_) | (with_reducible refine Fr.drewN ?_ _) | (with_reducible refine Fr.alloc ?_ _))))); intro K hK; go_simp; first | (refine hK _ ?_; clear hK K) | (refine ⟨_, fun _ _ => rfl, hK _ ?_⟩; clear hK K))
  (refine HW.q (i := 6) rfl (by kernel_rfl) (fun _ _ _ _ h => h) ?_ ?_; (focus ((try dsimp only); exact (by repeat' (first | (with_reducible exact Fr.refl _ _) | (with_reducible assumption) | (with_reducible refine Fr.drew ?_) | (with_reducible refine Fr.drewN ?_ _) | (with_reducible refine Fr.alloc ?_ _))))); intro K hK; go_simp; apply Exists.intro; refine ⟨fun w2 hw2 => ?_, hK _ ?_⟩; (focus (obtain ⟨hc2, hf2⟩ := frcell hw2; go_simp; first | done | rfl)); clear hK K)
  (refine HW.solo (i := 7) rfl (by kernel_rfl) (by kernel_rfl) ?_; intro K hK; go_simp)
  go_at_call 29
  refine (tswap_first bt bp np _ (hM6.out.below (by repeat' (first | (with_reducible exact Below.refl _ _) | (with_reducible assumption) | (with_reducible refine Below.alloc ?_ ?_ _) | (with_reducible refine below_drewN ?_ _) | (with_reducible refine Below.drew ?_) | (with_reducible refine Below.setCell ?_ ?_ _) | go_size))).t h1).mono ?_
  rintro e w7 ⟨rfl, hT7, hF7⟩
  have hF7 : Fr [bp] w6 w7 := ⟨hF7.os, hF7.tape, hF7.output, hF7.size, hF7.block⟩
  have hM7 := Lib.hid (hM6.out.table hT7 hF7)
  refine hK _ _ hF7 ?_
  clear hK K
  (refine HW.q (i := 8) rfl (by kernel_rfl) (fun _ _ _ _ h => h) ?_ ?_; (focus ((try dsimp only); exact (by repeat' (first | (with_reducible exact Fr.refl _ _) | (with_reducible assumption) | (with_reducible refine Fr.drew ?_) | (with_reducible refine Fr.drewN ?_ _) | (with_reducible refine Fr.alloc ?_ _))))); intro K hK; go_simp; first | (refine hK _ ?_; clear hK K) | (refine ⟨_, fun _ _ => rfl, hK _ ?_⟩; clear hK K))
  (refine HW.q (i := 9) rfl (by kernel_rfl) (fun _ _ _ _ h => h) ?_ ?_; (focus ((try dsimp only); exact (by repeat' (first | (with_reducible exact Fr.refl _ _) | (with_reducible assumption) | (with_reducible refine Fr.drew ?_) | (with_reducible refine Fr.drewN ?_ _) | (with_reducible refine Fr.alloc ?_ _))))); intro K hK; go_simp; first | (refine hK _ ?_; clear hK K) | (refine ⟨_, fun _ _ => rfl, hK _ ?_⟩; clear hK K))
  (refine HW.q (i := 10) rfl (by kernel_rfl) (fun _ _ _ _ h => h) ?_ ?_; (focus ((try dsimp only); exact (by repeat' (first | (with_reducible exact Fr.refl _ _) | (with_reducible assumption) | (with_reducible refine Fr.drew ?_) | (with_reducible refine Fr.drewN ?_ _) | (with_reducible refine Fr.alloc ?_ _))))); intro K hK; go_simp; first | (refine hK _ ?_; clear hK K) | (refine ⟨_, fun _ _ => rfl, hK _ ?_⟩; clear hK K))
  (refine HW.q (i := 11) rfl (by kernel_rfl) (fun _ _ _ _ h => h) ?_ ?_; (focus ((try dsimp only); exact (by repeat' (first | (with_reducible exact Fr.refl _ _) | (with_reducible assumption) | (with_reducible refine Fr.drew ?_) | (with_reducible refine Fr.drewN ?_ _) | (with_reducible refine Fr.alloc ?_ _))))); intro K hK; go_simp; first | (refine hK _ ?_; clear hK K) | (refine ⟨_, fun _ _ => rfl, hK _ ?_⟩; clear hK K))
  refine HW.done (by kernel_rfl) ?_
  simp only [List.drop_succ_cons, List.drop_zero]
  go_wp2_with fail
  go_ret2
  have hb5 : Below w.heap.size V w5 := hF5.below (by have := hbW.size; omega) (by simpa using hbs)
  have hb6 : Below w.heap.size w5 w6 := (show Below w.heap.size w5 (w5.alloc (.cells #[.int .i64 1, .int .i64 1] 55)) from (Below.refl _ _).alloc (by have := hbW.size; omega) _).trans (hF6.below (by have := hbW.size; simp; omega) (by simpa using hbp))
  have hb7 : Below w.heap.size w6 w7 := hF7.below (by have := hbW.size; omega) (by simpa using hbp)
  refine ⟨⟨bm, ba, bs, bt, bp, bc, bi⟩, rv, ev, rfl, hM7.out, ((hbW.trans hb5).trans hb6).trans hb7, ?_⟩
  intro g hg
  simp [MB.F] at hg
  rcases hg with rfl | rfl | rfl | rfl | rfl <;> assumption
end Go.Proofs.YthidclcliflhkaaGreat
end
section
open Go Go.RowKit
namespace Go.Proofs.YthidclcliflhkaaGreat

theorem Got.keep {w0 w w' : World} {S : List SlotV} {x0 : Rl.Ref} {p : List Nat} {j : Nat} {A : Option Addr} {c : Nat} {B : Option Addr} {d : Nat} {C : List RecV} {bx : Nat} (h : Got w0 w S x0 p j A c B d C bx) (hb : Below w.heap.size w w') : Got w0 w' S x0 p j A c B d C bx :=
  ⟨h.len, h.recs, ownsRow_keep h.own hb, fun x hx => (h.at_ x hx).keep hb, ownsRow_keep h.refs hb, h.box.below hb h.box.lt, h.apart, h.ge, h.below.trans (hb.mono h.below.size)⟩
theorem Got.chain {w0 w : World} {S : List SlotV} {x0 : Rl.Ref} {p : List Nat} {j : Nat} {A : Option Addr} {c : Nat} {B : Option Addr} {d : Nat} {C : List RecV} {bx : Nat} (h : Got w0 w S x0 p j A c B d C bx) (hj : 0 < j) : ∃ g, A = some ⟨g, 0, none⟩ ∧ ChainAt w g c C := by
  obtain ⟨g, cap, hv, _, _⟩ := h.own.form hj
  injection hv with h1 h2 h3
  subst h1
  refine ⟨g, rfl, ?_, h.at_⟩
  rw [h.len]
  exact ownsRow_base h.own (Nat.zero_le _)
theorem Got.nil {w0 w : World} {S : List SlotV} {x0 : Rl.Ref} {p : List Nat} {A : Option Addr} {c : Nat} {B : Option Addr} {d : Nat} {C : List RecV} {bx : Nat} (h : Got w0 w S x0 p 0 A c B d C bx) : C = [] := List.eq_nil_of_length_eq_zero h.len
theorem usedAt_pos {T : List Rl.Pg} (h0 : 0 < T.length) (hu : T[0].used = true) : 0 < (usedAt T T.length).length := by
  match T, h0, hu with
  | t :: T, _, hu =>
    have hu : t.used = true := hu
    simp [usedAt, usedFrom, hu]
/-- Page 0 is a leaf whose chain is this path. -/
structure OneLeaf (S : List SlotV) (T : List Rl.Pg) (lim : Rl.Limits) (p : List Nat) : Prop where
  t0 : 0 < T.length
  tlen : T.length ≤ 256
  slen : S.length ≤ 4096
  used : T[0].used = true
  path : PathIs S T[0].head p
  lim1 : (p.length : Int) ≤ lim.slots
  lim2 : lim.slots ≤ 4096
  puts : ∀ C : List RecV, C.map (·.r) = recsOf S p p.length → PutsOk C (p.length - 1)
  pos : 0 < p.length
set_option maxRecDepth 100000 in
set_option maxHeartbeats 2000000 in
theorem leftmost_one (b : MB) (lim : Rl.Limits) (count : Int) (S : List SlotV) (T : List Rl.Pg) (now : Int) (kk : Nat) (D : DataW Unit) (p : List Nat) (w : World) (hM : MemAt w b lim count S T now kk D) (hL : OneLeaf S T lim p) :
    Calls Tryz.prog 30 #[.pointer (some ⟨b.m, 0, none⟩)] w (RetB (.tuple #[.int .i64 0, .nilIface]) w) := by
  have HM := Lib.hid hM
  have HL := Lib.hid hL
  clear hM hL
  go_enter Tryz.func30, Tryz.ntmps30
  go_wp2_with fail
  go_step3
  go_wp2_with (go_at_call 31
               refine (mpages_any b lim count S T now kk D _ HM.out HL.out.tlen).mono ?_
               rintro e w1 ⟨A1, c1, rfl, ho1, hb1⟩
               have HM1 := Lib.hid (HM.out.below hb1)
               have HB1 := Lib.hid hb1
               clear ho1 hb1)
  go_step3
  go_wp2_with (first
    | (go_at_call 32
       refine (chain_any b lim count S T now kk D 0 p _ HM1.out HL.out.t0 HL.out.tlen HL.out.slen HL.out.used HL.out.path HL.out.lim1 HL.out.lim2).mono ?_
       rintro e w2 ⟨A, c, B, d, C, bx, rfl, hG⟩
       have HG := Lib.hid hG
       clear hG)
    | fail)
  obtain ⟨g, rfl, hC⟩ := HG.out.chain HL.out.pos
  have hbw2 : Below w.heap.size w w2 := below_to HB1.out HG.out.below
  have hpl : p.length ≤ 4097 := by have := HL.out.lim1; have := HL.out.lim2; omega
  have hof := Lib.hid (of_any 0 0 0 C (p.length - 1) g c B p.length d _ w2 hC (HL.out.puts C HG.out.recs) (Reads.of_own HG.out.refs) (refCells_one _ _ _ _) hpl)
  rw [HG.out.len] at hof
  clear hC hpl
  refine hof.out.mono ?_
  rintro e w3 ⟨P1, d1, P2, d2, rv, rfl, ⟨AV, cV, rfl, hlV, hoV⟩, hb3⟩
  have hbw3 : Below w.heap.size w w3 := below_to hbw2 hb3
  have hs3 := hbw3.size
  have HZ2 := Lib.hid (Blk.new_at (X := w3) (b := w3.heap.size) (t := 128) (cs := #[.int .i64 0, .int .i64 0, .int .i64 0, .slice none 0 0, .slice none 0 0, .bool false, .string ⟨#[]⟩, .string ⟨#[]⟩, .bool false, .int .i64 0, .slice none 0 0, .bool false, .string ⟨#[]⟩, .string ⟨#[]⟩, .bool false, .int .i64 0, .slice none 0 0, .bool false, .int .i64 0, .int .i64 0, .string ⟨#[]⟩]) rfl)
  clear hoV hb3 hbw2 hof HM1 HG
  go_wp2_with (refine wpList_store_mid rfl 128 _ _ rfl w3.heap.size 0 (pageVal 0 0 0 (.slice P1 p.length d1) (.slice P2 p.length d2) true (viewAt C) (.slice AV (viewAt C).rows.length cV)) rfl rfl (HZ2.out.there 0 21 (by simp)) (by kernel_rfl) (page_one _ _ _ _ _ _ _ _ _ _ _ _ _ _) ?_
               have hZ := HZ2.out.setCs (pageVal 0 0 0 (.slice P1 p.length d1) (.slice P2 p.length d2) true (viewAt C) (.slice AV (viewAt C).rows.length cV)).toList _ 0
               have hb4 : Below w.heap.size w ((w3.alloc (.cells #[.int .i64 0, .int .i64 0, .int .i64 0, .slice none 0 0, .slice none 0 0, .bool false, .string ⟨#[]⟩, .string ⟨#[]⟩, .bool false, .int .i64 0, .slice none 0 0, .bool false, .string ⟨#[]⟩, .string ⟨#[]⟩, .bool false, .int .i64 0, .slice none 0 0, .bool false, .int .i64 0, .int .i64 0, .string ⟨#[]⟩] 128)).setCells w3.heap.size 0 (pageVal 0 0 0 (.slice P1 p.length d1) (.slice P2 p.length d2) true (viewAt C) (.slice AV (viewAt C).rows.length cV)).toList) := below_setCs (g := w3.heap.size) (B := w.heap.size) _ _ _ (by repeat' (first | (with_reducible exact Below.refl _ _) | (with_reducible assumption) | (with_reducible refine Below.alloc ?_ ?_ _) | (with_reducible refine below_drewN ?_ _) | (with_reducible refine Below.drew ?_) | (with_reducible refine Below.setCell ?_ ?_ _) | go_size)) hs3
               obtain ⟨V, HVV⟩ : ∃ V, Hid ((w3.alloc (.cells #[.int .i64 0, .int .i64 0, .int .i64 0, .slice none 0 0, .slice none 0 0, .bool false, .string ⟨#[]⟩, .string ⟨#[]⟩, .bool false, .int .i64 0, .slice none 0 0, .bool false, .string ⟨#[]⟩, .string ⟨#[]⟩, .bool false, .int .i64 0, .slice none 0 0, .bool false, .int .i64 0, .int .i64 0, .string ⟨#[]⟩] 128)).setCells w3.heap.size 0 (pageVal 0 0 0 (.slice P1 p.length d1) (.slice P2 p.length d2) true (viewAt C) (.slice AV (viewAt C).rows.length cV)).toList = V) := ⟨_, Lib.hid rfl⟩
               rw [HVV.out] at hZ hb4 ⊢
               simp only [pageVal, setN, List.set_cons_zero, List.set_cons_succ] at hZ
               have hZ := Lib.hid (show Blk V w3.heap.size 128 (pageVal 0 0 0 (.slice P1 p.length d1) (.slice P2 p.length d2) true (viewAt C) (.slice AV (viewAt C).rows.length cV)) from hZ)
               clear HVV HZ2
               have hcP := fun i => hZ.out.cell i
               simp only [pageVal] at hcP)
  rw [Exit.noGoto_ret]
  go_ret2
  exact ⟨rfl, hb4⟩
set_option maxRecDepth 100000 in
set_option maxHeartbeats 2000000 in
theorem scan_one (b : MB) (lim : Rl.Limits) (count : Int) (S : List SlotV) (T : List Rl.Pg) (now : Int) (kk : Nat) (D : DataW Unit) (p : List Nat) (v : Rl.LeafView) (w : World) (hM : MemAt w b lim count S T now kk D) (hL : OneLeaf S T lim p)
    (hv : ∀ C : List RecV, C.map (·.r) = recsOf S p p.length → viewAt C = v) (hun : v.unb = true) (hlen : v.rows.length ≤ 4096) :
    Calls Tryz.prog 16 #[.pointer (some ⟨b.m, 0, none⟩)] w fun e w' => ∃ A c, e = .returned (.tuple #[.slice A v.rows.length c, .nilIface]) ∧ w'.ownsRow w.heap.size 50 2 (.slice A v.rows.length c) v.rows.length (rowCells v.rows) ∧ Below w.heap.size w w' := by
  have HM := Lib.hid hM
  have HL := Lib.hid hL
  have HV := Lib.hid hv
  clear hM hL hv
  go_enter Tryz.func16, Tryz.ntmps16
  go_wp2_with (first
    | (go_at_call 30
       refine (leftmost_one b lim count S T now kk D p _ HM.out HL.out).mono ?_
       rintro e w1 ⟨rfl, hb1⟩
       have HM1 := Lib.hid (HM.out.below hb1)
       have HB1 := Lib.hid hb1
       clear hb1)
    | (go_at_call 31
       refine (mpages_any b lim count S T now kk D _ HM1.out HL.out.tlen).mono ?_
       rintro e w2 ⟨A2, c2, rfl, ho2, hb2⟩
       have HM2 := Lib.hid (HM1.out.below hb2)
       have HB2 := Lib.hid (below_to HB1.out hb2)
       clear ho2 hb2))
  have hpos := usedAt_pos HL.out.t0 HL.out.used
  go_loopw [4, 6, 25] (fun n o i wr => n = .int .i64 0 ∧ o = .slice none 0 0 ∧ i = .int .i64 0 ∧ Below w.heap.size w wr) (fun _ _ _ _ => 0)
  case atStart => exact ⟨rfl, rfl, rfl, HB2.out⟩
  case round =>
    obtain ⟨rfl, rfl, rfl, hbr⟩ := hrel
    have HMr := Lib.hid (HM.out.below hbr)
    have hbs := hbr.size
    go_wp2_with (first
      | (go_at_call 32
         refine (chain_any b lim count S T now kk D 0 p _ HMr.out HL.out.t0 HL.out.tlen HL.out.slen HL.out.used HL.out.path HL.out.lim1 HL.out.lim2).mono ?_
         rintro e w3 ⟨A, c, B, d, C, bx, rfl, hG⟩
         have HG := Lib.hid hG
         clear hG))
    obtain ⟨g, rfl, hC⟩ := HG.out.chain HL.out.pos
    have hw := HV.out C HG.out.recs
    have hbw3 : Below w.heap.size w w3 := below_to hbr HG.out.below
    have hof := Lib.hid (fold_any C (p.length - 1) g c w3 hC (HL.out.puts C HG.out.recs))
    rw [HG.out.len, hw] at hof
    clear hC hw
    refine hof.out.mono ?_
    rintro e w4 ⟨rv, rfl, ⟨AV, cV, rfl, hlV, hoV⟩, hb4⟩
    have hbw4 : Below w.heap.size w w4 := below_to hbw3 hb4
    have hs4 := hbw4.size
    have HOV := Lib.hid hoV
    clear hoV hb4 hof HG HMr
    obtain ⟨i0, hi0, hz0, hz1, hz2⟩ := info_parts row_info
    simp only [leafVal]
    go_wp2_with (at_builtin
                 refine wpList_append_any _ rfl (.tmp 45) (.tmp 47) _ rfl w.heap.size 50 i0 _ 2 32 Tryz.underlying46 hi0 hz0 hz1 hz2 rfl (by decide) (.slice none 0 0) 0 [] rfl (World.ownsRow_nil _ _ _ _) (w4.heap.size + 1) AV v.rows.length cV (rowCells v.rows) rfl ((Reads.alloc (show Reads w4 w4.heap.size 2 AV v.rows.length (rowCells v.rows) from OwnV.reads HOV.out) (Nat.le_refl _) _).more (Nat.le_succ _)) ?_ ?_ ?_ ?_ ?_
                 · exact rowCells_one v.rows
                 · simp only [maxLen]; omega
                 · omega
                 · go_size
                 intro v1 w5 ho5 hg5 hx5
                 obtain ⟨A5, c5, rfl, hl5⟩ := own_form ho5
                 simp only [Nat.zero_add, List.nil_append] at ho5
                 have hbx : Below (w4.heap.size + 1) (w4.alloc (.cells #[.string v.low, .string v.high, .bool true, .int .i64 v.right, .slice AV v.rows.length cV, .bool v.gone] 96)) w5 := Below.grown (Below.refl _ _) hg5 (by first | (simp; done) | (simp; omega) | omega) (by simp [Value.ownBlock])
                 have HO5 := Lib.hid ho5
                 have hY : Blk (w4.alloc (.cells #[.string v.low, .string v.high, .bool true, .int .i64 v.right, .slice AV v.rows.length cV, .bool v.gone] 96)) w4.heap.size 96 #[.string v.low, .string v.high, .bool true, .int .i64 v.right, .slice AV v.rows.length cV, .bool v.gone] := Blk.new_at rfl
                 have hY5 := hY.below hbx (Nat.lt_succ_self _)
                 have hb5 : Below w.heap.size w w5 := (show Below w.heap.size w (w4.alloc (.cells #[.string v.low, .string v.high, .bool true, .int .i64 v.right, .slice AV v.rows.length cV, .bool v.gone] 96)) from (by repeat' (first | (with_reducible exact Below.refl _ _) | (with_reducible assumption) | (with_reducible refine Below.alloc ?_ ?_ _) | (with_reducible refine below_drewN ?_ _) | (with_reducible refine Below.drew ?_) | (with_reducible refine Below.setCell ?_ ?_ _) | go_size))).trans (hbx.mono (by omega))
                 clear ho5 hg5 hx5 hY
                 have hcY := fun i => hY5.cell i
                 simp only [Nat.zero_add])
    refine bodyPost_ret (v := .tuple #[.slice A5 v.rows.length c5, .nilIface]) ?_ rfl ⟨A5, c5, rfl, HO5.out, hb5⟩
    simp [results, Tryz.results16, go_sem]
end Go.Proofs.YthidclcliflhkaaGreat
end
