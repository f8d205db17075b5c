/- What the memory's functions compute: contracts, the fourth part: Swap. -/
import Derived.Test.YthidclcliflhkaaGreatZ06
section
open Go Go.RowKit
namespace Go.Proofs.YthidclcliflhkaaGreat

set_option maxRecDepth 100000 in
set_option maxHeartbeats 1000000 in
theorem mswap_ok (b : MB) (lim : Rl.Limits) (count : Int) (S : List SlotV) (T : List Rl.Pg) (now : Int) (k : Nat) (D : DataW Unit) (n : Nat) (os og ns ng : Int) (w : World) (hM : MemAt w b lim count S T now k D) (hk : n < T.length) (hlen : T.length ≤ 256) (hu : T[n].used = true) (hs : T[n].head = ⟨os, og⟩)
    (hc0 : 0 ≤ count) (hc1 : count ≤ 1099511627776) :
    Calls Tryz.prog 173 #[.pointer (some ⟨b.m, 0, none⟩), .int .i64 n, .agg #[.int .i64 os, .int .i64 og], .agg #[.int .i64 ns, .int .i64 ng]] w
      fun e w' => e = .returned (.tuple #[.bool true, .nilIface]) ∧ MemAt w' b lim (count + 1) S (T.set n ⟨true, ⟨ns, ng⟩⟩) now k D ∧ Fr b.F w w' := by
  have hlt := hM.m.lt
  have hc := fun i => hM.m.cell i
  have hf := fun i => hM.m.frozen i
  have hw1 : IntKind.i64.wrap (count + 1) = count + 1 := IntWalk.i64_in _ (by omega)
  have hF0 : Fr b.F w (w.setCell ⟨b.m, 0, none⟩ (.int .i64 (count + 1))) := (Fr.refl _ w).setCell (p := ⟨b.m, 0, none⟩) (.inl (by simp [MB.F])) _
  simp only [memCells] at hc
  have HM := Lib.hid hM
  clear hM
  go_enter Tryz.func173, Tryz.ntmps173
  go_wp2_with go_in
  refine wp_name ?_
  intro V HV
  clear hc hf
  have hMV : Hid (MemAt V b lim (count + 1) S T now k D) := Lib.hid (by rw [← HV.out]; exact HM.out.tick.below (by repeat' (first | (with_reducible exact Below.refl _ _) | (with_reducible assumption) | (with_reducible refine Below.alloc ?_ ?_ _) | (with_reducible refine below_drewN ?_ _) | (with_reducible refine Below.drew ?_) | (with_reducible refine Below.setCell ?_ ?_ _) | go_size)))
  have hFV : Fr b.F w V := by rw [← HV.out]; exact (hF0.alloc _).alloc _
  have hXV : Hid (Blk V w.heap.size 55 #[.int .i64 os, .int .i64 og]) := Lib.hid (by rw [← HV.out]; exact Blk.alloc (Blk.new_at (by simp)) _)
  have hZV : Hid (Blk V (w.heap.size + 1) 55 #[.int .i64 ns, .int .i64 ng]) := Lib.hid (by rw [← HV.out]; exact Blk.new_at (by simp))
  have hsV : w.heap.size + 1 + 1 = V.heap.size := by rw [← HV.out]; simp
  clear HV
  have hcM := fun i => hMV.out.m.cell i
  simp only [memCells] at hcM
  have hcX := fun i => hXV.out.cell i
  have hcZ := fun i => hZV.out.cell i
  have hsm : b.m < V.heap.size := by omega
  have hsx : w.heap.size < V.heap.size := by omega
  have hsz : w.heap.size + 1 < V.heap.size := by omega
  have hn1 : b.m ≠ b.p := Blk.ne_ hMV.out.m hMV.out.t.p (by decide)
  have hn2 : w.heap.size ≠ b.p := Blk.ne_ hXV.out hMV.out.t.p (by decide)
  have hn3 : w.heap.size + 1 ≠ b.p := Blk.ne_ hZV.out hMV.out.t.p (by decide)
  refine wp_region_head 12 (fun w' => Fr [b.p] V w') (by kernel_rfl) (by kernel_rfl) ?_
  (refine HW.q (i := 0) rfl (by kernel_rfl) (fun _ _ _ _ h => h) ?_ ?_; (focus ((try dsimp only); exact (by repeat' (first | (with_reducible exact Fr.refl _ _) | (with_reducible assumption) | (with_reducible refine Fr.drew ?_) | (with_reducible refine Fr.drewN ?_ _) | (with_reducible refine Fr.alloc ?_ _))))); intro K hK; go_simp; first | (refine hK _ ?_; clear hK K) | (refine ⟨_, fun _ _ => rfl, hK _ ?_⟩; clear hK K))
  (refine HW.q (i := 1) rfl (by kernel_rfl) (fun _ _ _ _ h => h) ?_ ?_; (focus ((try dsimp only); exact (by repeat' (first | (with_reducible exact Fr.refl _ _) | (with_reducible assumption) | (with_reducible refine Fr.drew ?_) | (with_reducible refine Fr.drewN ?_ _) | (with_reducible refine Fr.alloc ?_ _))))); intro K hK; go_simp; first | (refine hK _ ?_; clear hK K) | (refine ⟨_, fun _ _ => rfl, hK _ ?_⟩; clear hK K))
  (refine HW.q (i := 2) rfl (by kernel_rfl) (fun _ _ _ _ h => h) ?_ ?_; (focus ((try dsimp only); exact (by repeat' (first | (with_reducible exact Fr.refl _ _) | (with_reducible assumption) | (with_reducible refine Fr.drew ?_) | (with_reducible refine Fr.drewN ?_ _) | (with_reducible refine Fr.alloc ?_ _))))); intro K hK; go_simp; first | (refine hK _ ?_; clear hK K) | (refine ⟨_, fun _ _ => rfl, hK _ ?_⟩; clear hK K))
  (refine HW.q (i := 3) rfl (by kernel_rfl) (fun _ _ _ _ h => h) ?_ ?_; (focus ((try dsimp only); exact (by repeat' (first | (with_reducible exact Fr.refl _ _) | (with_reducible assumption) | (with_reducible refine Fr.drew ?_) | (with_reducible refine Fr.drewN ?_ _) | (with_reducible refine Fr.alloc ?_ _))))); intro K hK; go_simp; apply Exists.intro; refine ⟨fun w2 hw2 => ?_, hK _ ?_⟩; (focus (obtain ⟨hc2, hf2⟩ := frcell hw2; go_simp; first | done | rfl)); clear hK K)
  (refine HW.q (i := 4) rfl (by kernel_rfl) (fun _ _ _ _ h => h) ?_ ?_; (focus ((try dsimp only); exact (by repeat' (first | (with_reducible exact Fr.refl _ _) | (with_reducible assumption) | (with_reducible refine Fr.drew ?_) | (with_reducible refine Fr.drewN ?_ _) | (with_reducible refine Fr.alloc ?_ _))))); intro K hK; go_simp; first | (refine hK _ ?_; clear hK K) | (refine ⟨_, fun _ _ => rfl, hK _ ?_⟩; clear hK K))
  (refine HW.q (i := 5) rfl (by kernel_rfl) (fun _ _ _ _ h => h) ?_ ?_; (focus ((try dsimp only); exact (by repeat' (first | (with_reducible exact Fr.refl _ _) | (with_reducible assumption) | (with_reducible refine Fr.drew ?_) | (with_reducible refine Fr.drewN ?_ _) | (with_reducible refine Fr.alloc ?_ _))))); intro K hK; go_simp; apply Exists.intro; refine ⟨fun w2 hw2 => ?_, hK _ ?_⟩; (focus (obtain ⟨hc2, hf2⟩ := frcell hw2; go_simp; first | done | rfl)); clear hK K)
  (refine HW.q (i := 6) rfl (by kernel_rfl) (fun _ _ _ _ h => h) ?_ ?_; (focus ((try dsimp only); exact (by repeat' (first | (with_reducible exact Fr.refl _ _) | (with_reducible assumption) | (with_reducible refine Fr.drew ?_) | (with_reducible refine Fr.drewN ?_ _) | (with_reducible refine Fr.alloc ?_ _))))); intro K hK; go_simp; apply Exists.intro; refine ⟨fun w2 hw2 => ?_, hK _ ?_⟩; (focus (obtain ⟨hc2, hf2⟩ := frcell hw2; go_simp; first | done | rfl)); clear hK K)
  (refine HW.solo (i := 7) rfl (by kernel_rfl) (by kernel_rfl) ?_; intro K hK; go_simp)
  go_at_call 29
  refine (tswap_ok b.t b.p T n os og ns ng _ (hMV.out.below (by repeat' (first | (with_reducible exact Below.refl _ _) | (with_reducible assumption) | (with_reducible refine Below.alloc ?_ ?_ _) | (with_reducible refine below_drewN ?_ _) | (with_reducible refine Below.drew ?_) | (with_reducible refine Below.setCell ?_ ?_ _) | go_size))).t hk hlen hu hs).mono ?_
  rintro e w1 ⟨rfl, hT1, hF1⟩
  have hF1 : Fr [b.p] V w1 := ⟨hF1.os, hF1.tape, hF1.output, hF1.size, hF1.block⟩
  have hM1 := Lib.hid (hMV.out.table hT1 hF1)
  refine hK _ _ hF1 ?_
  clear hK K
  (refine HW.q (i := 8) rfl (by kernel_rfl) (fun _ _ _ _ h => h) ?_ ?_; (focus ((try dsimp only); exact (by repeat' (first | (with_reducible exact Fr.refl _ _) | (with_reducible assumption) | (with_reducible refine Fr.drew ?_) | (with_reducible refine Fr.drewN ?_ _) | (with_reducible refine Fr.alloc ?_ _))))); intro K hK; go_simp; first | (refine hK _ ?_; clear hK K) | (refine ⟨_, fun _ _ => rfl, hK _ ?_⟩; clear hK K))
  (refine HW.q (i := 9) rfl (by kernel_rfl) (fun _ _ _ _ h => h) ?_ ?_; (focus ((try dsimp only); exact (by repeat' (first | (with_reducible exact Fr.refl _ _) | (with_reducible assumption) | (with_reducible refine Fr.drew ?_) | (with_reducible refine Fr.drewN ?_ _) | (with_reducible refine Fr.alloc ?_ _))))); intro K hK; go_simp; first | (refine hK _ ?_; clear hK K) | (refine ⟨_, fun _ _ => rfl, hK _ ?_⟩; clear hK K))
  (refine HW.q (i := 10) rfl (by kernel_rfl) (fun _ _ _ _ h => h) ?_ ?_; (focus ((try dsimp only); exact (by repeat' (first | (with_reducible exact Fr.refl _ _) | (with_reducible assumption) | (with_reducible refine Fr.drew ?_) | (with_reducible refine Fr.drewN ?_ _) | (with_reducible refine Fr.alloc ?_ _))))); intro K hK; go_simp; first | (refine hK _ ?_; clear hK K) | (refine ⟨_, fun _ _ => rfl, hK _ ?_⟩; clear hK K))
  (refine HW.q (i := 11) rfl (by kernel_rfl) (fun _ _ _ _ h => h) ?_ ?_; (focus ((try dsimp only); exact (by repeat' (first | (with_reducible exact Fr.refl _ _) | (with_reducible assumption) | (with_reducible refine Fr.drew ?_) | (with_reducible refine Fr.drewN ?_ _) | (with_reducible refine Fr.alloc ?_ _))))); intro K hK; go_simp; first | (refine hK _ ?_; clear hK K) | (refine ⟨_, fun _ _ => rfl, hK _ ?_⟩; clear hK K))
  refine HW.done (by kernel_rfl) ?_
  simp only [List.drop_succ_cons, List.drop_zero]
  go_wp2_with (go_at_call 40
               refine (at_nil _ _ _).mono ?_
               rintro e w3 ⟨rfl, rfl⟩)
  go_ret2
  exact ⟨rfl, hM1.out, hFV.trans (hF1.mm (by simp [MB.F]))⟩
end Go.Proofs.YthidclcliflhkaaGreat
end
