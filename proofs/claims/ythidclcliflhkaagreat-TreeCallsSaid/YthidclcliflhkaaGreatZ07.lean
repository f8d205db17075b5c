/- What the memory's functions compute: contracts, the second part: Load. Words for chains of records. -/
import Derived.Test.YthidclcliflhkaaGreatZ04
import Derived.Test.YthidclcliflhkaaGreatZ06
section
open Go Go.RowKit
namespace Go.Proofs.YthidclcliflhkaaGreat

def zeroRec : Array Value := #[.int .i64 0, .string ⟨#[]⟩, .string ⟨#[]⟩, .bool false, .int .i64 0, .slice none 0 0, .slice none 0 0, .string ⟨#[]⟩, .string ⟨#[]⟩, .int .i64 0, .int .i64 0, .int .i64 0, .string ⟨#[]⟩, .int .i64 0, .int .i64 0]
theorem rec_one (r : Rl.Rec) (A B : Option Addr) (m n c d : Nat) : (recVal r (.slice A m c) (.slice B n d)).all (·.oneCell') = true := by
  simp [recVal]; and_intros <;> rfl
theorem ownsRow_low {w : World} {B B' : Nat} {e : TypeId} {size n : Nat} {v : Value} {xs : List Value} (h : w.ownsRow B e size v n xs) (hb : B' ≤ B) : w.ownsRow B' e size v n xs := ownsRow_base h hb
set_option maxRecDepth 100000 in
set_option maxHeartbeats 3000000 in
theorem mload_any (b : MB) (lim : Rl.Limits) (count : Int) (S : List SlotV) (T : List Rl.Pg) (now : Int) (k : Nat) (D : DataW Unit) (n : Nat) (gen : Int) (w : World) (hM : MemAt w b lim count S T now k D) (hk : n < S.length) (hlen : S.length ≤ 4096) (hu : S[n].s.used = true) (hg : S[n].s.gen = gen) (hok : RecOk S[n].s.r)
    (hc0 : 0 ≤ count) (hc1 : count ≤ 1099511627776) :
    Calls Tryz.prog 94 #[.pointer (some ⟨b.m, 0, none⟩), .agg #[.int .i64 (n + 1), .int .i64 gen]] w fun e w' => ∃ rv ev, e = .returned (.tuple #[.agg (recVal S[n].s.r rv ev), .nilIface]) ∧
      OwnV w' w.heap.size rv S[n].s.r.rows ∧ OwnE w' w.heap.size ev S[n].s.r.entries ∧ MemAt w' b lim (count + 1) S T now k D ∧ Fr b.F w w' := by
  have hlt := hM.m.lt
  have hc := fun i => hM.m.cell i
  have hf := fun i => hM.m.frozen i
  have hw1 : IntKind.i64.wrap (count + 1) = count + 1 := IntWalk.i64_in _ (by omega)
  have hF0 : Fr b.F w (w.setCell ⟨b.m, 0, none⟩ (.int .i64 (count + 1))) := (Fr.refl _ w).setCell (p := ⟨b.m, 0, none⟩) (.inl (by simp [MB.F])) _
  simp only [memCells] at hc
  have HM := Lib.hid hM
  clear hM
  go_enter Tryz.func94, Tryz.ntmps94
  go_wp2_with go_in
  refine wp_name ?_
  intro V HV
  clear hc hf
  have hMV : Hid (MemAt V b lim (count + 1) S T now k D) := Lib.hid (by rw [← HV.out]; exact HM.out.tick.below (by repeat' (first | (with_reducible exact Below.refl _ _) | (with_reducible assumption) | (with_reducible refine Below.alloc ?_ ?_ _) | (with_reducible refine below_drewN ?_ _) | (with_reducible refine Below.drew ?_) | (with_reducible refine Below.setCell ?_ ?_ _) | go_size)))
  have hFV : Fr b.F w V := by rw [← HV.out]; exact (hF0.alloc _).alloc _
  have hXV : Hid (Blk V w.heap.size 55 #[.int .i64 (n + 1), .int .i64 gen]) := Lib.hid (by rw [← HV.out]; exact Blk.alloc (Blk.new_at (by simp)) _)
  have hZV : Hid (Blk V (w.heap.size + 1) 83 #[.int .i64 0, .string .empty, .string .empty, .bool false, .int .i64 0, .slice none 0 0, .slice none 0 0, .string .empty, .string .empty, .int .i64 0, .int .i64 0, .int .i64 0, .string .empty, .int .i64 0, .int .i64 0]) := Lib.hid (by rw [← HV.out]; exact Blk.new_at (by simp))
  have hsV : w.heap.size + 1 + 1 = V.heap.size := by rw [← HV.out]; simp
  clear HV
  have hcM := fun i => hMV.out.m.cell i
  simp only [memCells] at hcM
  have hcX := fun i => hXV.out.cell i
  have hsm : b.m < V.heap.size := by omega
  have hsx : w.heap.size < V.heap.size := by omega
  refine wp_region_head 11 (fun w' => Below V.heap.size V w') (by kernel_rfl) (by kernel_rfl) ?_
  (refine HW.q (i := 0) rfl (by kernel_rfl) (fun _ _ _ _ h => h) ?_ ?_; (focus ((try dsimp only); exact (by repeat' (first | (with_reducible exact Below.refl _ _) | (with_reducible assumption) | (with_reducible refine Below.alloc ?_ ?_ _) | (with_reducible refine below_drewN ?_ _) | (with_reducible refine Below.drew ?_) | (with_reducible refine Below.setCell ?_ ?_ _) | go_size)))); intro K hK; go_simp; first | (refine hK _ ?_; clear hK K) | (refine ⟨_, fun _ _ => rfl, hK _ ?_⟩; clear hK K))
  (refine HW.q (i := 1) rfl (by kernel_rfl) (fun _ _ _ _ h => h) ?_ ?_; (focus ((try dsimp only); exact (by repeat' (first | (with_reducible exact Below.refl _ _) | (with_reducible assumption) | (with_reducible refine Below.alloc ?_ ?_ _) | (with_reducible refine below_drewN ?_ _) | (with_reducible refine Below.drew ?_) | (with_reducible refine Below.setCell ?_ ?_ _) | go_size)))); intro K hK; go_simp; first | (refine hK _ ?_; clear hK K) | (refine ⟨_, fun _ _ => rfl, hK _ ?_⟩; clear hK K))
  (refine HW.q (i := 2) rfl (by kernel_rfl) (fun _ _ _ _ h => h) ?_ ?_; (focus ((try dsimp only); exact (by repeat' (first | (with_reducible exact Below.refl _ _) | (with_reducible assumption) | (with_reducible refine Below.alloc ?_ ?_ _) | (with_reducible refine below_drewN ?_ _) | (with_reducible refine Below.drew ?_) | (with_reducible refine Below.setCell ?_ ?_ _) | go_size)))); intro K hK; go_simp; first | (refine hK _ ?_; clear hK K) | (refine ⟨_, fun _ _ => rfl, hK _ ?_⟩; clear hK K))
  (refine HW.q (i := 3) rfl (by kernel_rfl) (fun _ _ _ _ h => h) ?_ ?_; (focus ((try dsimp only); exact (by repeat' (first | (with_reducible exact Below.refl _ _) | (with_reducible assumption) | (with_reducible refine Below.alloc ?_ ?_ _) | (with_reducible refine below_drewN ?_ _) | (with_reducible refine Below.drew ?_) | (with_reducible refine Below.setCell ?_ ?_ _) | go_size)))); intro K hK; go_simp; apply Exists.intro; refine ⟨fun w2 hw2 => ?_, hK _ ?_⟩; (focus (obtain ⟨hc2, hf2⟩ := bcell hw2; go_simp; first | done | rfl)); clear hK K)
  (refine HW.q (i := 4) rfl (by kernel_rfl) (fun _ _ _ _ h => h) ?_ ?_; (focus ((try dsimp only); exact (by repeat' (first | (with_reducible exact Below.refl _ _) | (with_reducible assumption) | (with_reducible refine Below.alloc ?_ ?_ _) | (with_reducible refine below_drewN ?_ _) | (with_reducible refine Below.drew ?_) | (with_reducible refine Below.setCell ?_ ?_ _) | go_size)))); intro K hK; go_simp; apply Exists.intro; refine ⟨fun w2 hw2 => ?_, hK _ ?_⟩; (focus (obtain ⟨hc2, hf2⟩ := bcell hw2; go_simp; first | done | rfl)); clear hK K)
  refine HW.two (i := 5) (j := 9) rfl rfl (by kernel_rfl) (by kernel_rfl) (by kernel_rfl) ?_ ?_
  case' refine_1 =>
    intro K hK
    go_simp
    go_at_call 51
    refine (aload_any b.a b.s S lim.count n gen _ (hMV.out.below (by repeat' (first | (with_reducible exact Below.refl _ _) | (with_reducible assumption) | (with_reducible refine Below.alloc ?_ ?_ _) | (with_reducible refine below_drewN ?_ _) | (with_reducible refine Below.drew ?_) | (with_reducible refine Below.setCell ?_ ?_ _) | go_size))).a hk hlen hu hg hok).mono ?_
    rintro e w1 ⟨rv1, ev1, rfl, ⟨A1, c1, rfl, hle1, ho1⟩, ⟨A2, c2, rfl, hle2, ho2⟩, hb1⟩
    have hb1 : Below V.heap.size V w1 := ⟨hb1.os, hb1.tape, hb1.output, hb1.size, hb1.block⟩
    have hs1 := hb1.size
    refine hK _ _ hb1 ?_
    clear hK K
    simp only [recVal]
    (refine HW.q (i := 6) rfl (by kernel_rfl) (fun _ _ _ _ h => h) ?_ ?_; (focus ((try dsimp only); exact (by repeat' (first | (with_reducible exact Below.refl _ _) | (with_reducible assumption) | (with_reducible refine Below.alloc ?_ ?_ _) | (with_reducible refine below_drewN ?_ _) | (with_reducible refine Below.drew ?_) | (with_reducible refine Below.setCell ?_ ?_ _) | go_size)))); intro K hK; go_simp; first | (refine hK _ ?_; clear hK K) | (refine ⟨_, fun _ _ => rfl, hK _ ?_⟩; clear hK K))
    (refine HW.q (i := 7) rfl (by kernel_rfl) (fun _ _ _ _ h => h) ?_ ?_; (focus ((try dsimp only); exact (by repeat' (first | (with_reducible exact Below.refl _ _) | (with_reducible assumption) | (with_reducible refine Below.alloc ?_ ?_ _) | (with_reducible refine below_drewN ?_ _) | (with_reducible refine Below.drew ?_) | (with_reducible refine Below.setCell ?_ ?_ _) | go_size)))); intro K hK; go_simp; first | (refine hK _ ?_; clear hK K) | (refine ⟨_, fun _ _ => rfl, hK _ ?_⟩; clear hK K))
    (refine HW.q (i := 8) rfl (by kernel_rfl) (fun _ _ _ _ h => h) ?_ ?_; (focus ((try dsimp only); exact (by repeat' (first | (with_reducible exact Below.refl _ _) | (with_reducible assumption) | (with_reducible refine Below.alloc ?_ ?_ _) | (with_reducible refine below_drewN ?_ _) | (with_reducible refine Below.drew ?_) | (with_reducible refine Below.setCell ?_ ?_ _) | go_size)))); intro K hK; go_simp; first | (refine hK _ ?_; clear hK K) | (refine ⟨_, fun _ _ => rfl, hK _ ?_⟩; clear hK K))
    refine HW.solo (i := 9) rfl (by kernel_rfl) (by kernel_rfl) ?_
    intro K hK
    go_simp
    refine hK _ _ (by repeat' (first | (with_reducible exact Below.refl _ _) | (with_reducible assumption) | (with_reducible refine Below.alloc ?_ ?_ _) | (with_reducible refine below_drewN ?_ _) | (with_reducible refine Below.drew ?_) | (with_reducible refine Below.setCell ?_ ?_ _) | go_size)) ?_
    clear hK K
    have ho1 := ownsRow_keep ho1 ((Below.refl _ _).alloc (Nat.le_refl _) (.cells zeroRec 83))
    have ho2 := ownsRow_keep ho2 ((Below.refl _ _).alloc (Nat.le_refl _) (.cells zeroRec 83))
    obtain ⟨W, HW⟩ : ∃ W, Hid (w1.alloc (.cells #[.int .i64 0, .string ⟨#[]⟩, .string ⟨#[]⟩, .bool false, .int .i64 0, .slice none 0 0, .slice none 0 0, .string ⟨#[]⟩, .string ⟨#[]⟩, .int .i64 0, .int .i64 0, .int .i64 0, .string ⟨#[]⟩, .int .i64 0, .int .i64 0] 83) = W) := ⟨_, Lib.hid rfl⟩
    obtain ⟨b6, Hb6⟩ : ∃ b6, Hid (w1.heap.size = b6) := ⟨_, Lib.hid rfl⟩
    have hbW : Below V.heap.size V W := by rw [← HW.out]; exact (by repeat' (first | (with_reducible exact Below.refl _ _) | (with_reducible assumption) | (with_reducible refine Below.alloc ?_ ?_ _) | (with_reducible refine below_drewN ?_ _) | (with_reducible refine Below.drew ?_) | (with_reducible refine Below.setCell ?_ ?_ _) | go_size))
    have hYW : Hid (Blk W b6 83 zeroRec) := Lib.hid (by rw [← HW.out, ← Hb6.out]; exact Blk.new_at rfl)
    have hb6 : V.heap.size ≤ b6 := by rw [← Hb6.out]; exact hs1
    have HO1 : Hid (W.ownsRow V.heap.size 50 2 (.slice A1 S[n].s.r.rows.length c1) S[n].s.r.rows.length (rowCells S[n].s.r.rows)) := Lib.hid (by rw [← HW.out]; exact ho1)
    have HO2 : Hid (W.ownsRow V.heap.size 132 2 (.slice A2 S[n].s.r.entries.length c2) S[n].s.r.entries.length (entCells S[n].s.r.entries)) := Lib.hid (by rw [← HW.out]; exact ho2)
    rw [HW.out, Hb6.out]
    clear HW Hb6 ho1 ho2 hb1 hs1
  case' refine_2 =>
    intro K hK
    go_simp
    refine hK _ _ (by repeat' (first | (with_reducible exact Below.refl _ _) | (with_reducible assumption) | (with_reducible refine Below.alloc ?_ ?_ _) | (with_reducible refine below_drewN ?_ _) | (with_reducible refine Below.drew ?_) | (with_reducible refine Below.setCell ?_ ?_ _) | go_size)) ?_
    clear hK K
    refine HW.solo (i := 5) rfl (by kernel_rfl) (by kernel_rfl) ?_
    intro K hK
    go_simp
    go_at_call 51
    refine (aload_any b.a b.s S lim.count n gen _ (hMV.out.below (by repeat' (first | (with_reducible exact Below.refl _ _) | (with_reducible assumption) | (with_reducible refine Below.alloc ?_ ?_ _) | (with_reducible refine below_drewN ?_ _) | (with_reducible refine Below.drew ?_) | (with_reducible refine Below.setCell ?_ ?_ _) | go_size))).a hk hlen hu hg hok).mono ?_
    rintro e w1 ⟨rv1, ev1, rfl, ⟨A1, c1, rfl, hle1, ho1⟩, ⟨A2, c2, rfl, hle2, ho2⟩, hb1⟩
    have h0 : Blk (V.drew.alloc (.cells zeroRec 83)) V.heap.size 83 zeroRec := Blk.new_at (X := V.drew) (b := V.heap.size) rfl
    have hYW : Hid (Blk w1 V.heap.size 83 zeroRec) := Lib.hid (h0.below hb1 h0.lt)
    have hb1 : Below V.heap.size V w1 := below_to (by repeat' (first | (with_reducible exact Below.refl _ _) | (with_reducible assumption) | (with_reducible refine Below.alloc ?_ ?_ _) | (with_reducible refine below_drewN ?_ _) | (with_reducible refine Below.drew ?_) | (with_reducible refine Below.setCell ?_ ?_ _) | go_size)) hb1
    refine hK _ _ hb1 ?_
    clear hK K
    simp only [recVal]
    (refine HW.q (i := 6) rfl (by kernel_rfl) (fun _ _ _ _ h => h) ?_ ?_; (focus ((try dsimp only); exact (by repeat' (first | (with_reducible exact Below.refl _ _) | (with_reducible assumption) | (with_reducible refine Below.alloc ?_ ?_ _) | (with_reducible refine below_drewN ?_ _) | (with_reducible refine Below.drew ?_) | (with_reducible refine Below.setCell ?_ ?_ _) | go_size)))); intro K hK; go_simp; first | (refine hK _ ?_; clear hK K) | (refine ⟨_, fun _ _ => rfl, hK _ ?_⟩; clear hK K))
    (refine HW.q (i := 7) rfl (by kernel_rfl) (fun _ _ _ _ h => h) ?_ ?_; (focus ((try dsimp only); exact (by repeat' (first | (with_reducible exact Below.refl _ _) | (with_reducible assumption) | (with_reducible refine Below.alloc ?_ ?_ _) | (with_reducible refine below_drewN ?_ _) | (with_reducible refine Below.drew ?_) | (with_reducible refine Below.setCell ?_ ?_ _) | go_size)))); intro K hK; go_simp; first | (refine hK _ ?_; clear hK K) | (refine ⟨_, fun _ _ => rfl, hK _ ?_⟩; clear hK K))
    (refine HW.q (i := 8) rfl (by kernel_rfl) (fun _ _ _ _ h => h) ?_ ?_; (focus ((try dsimp only); exact (by repeat' (first | (with_reducible exact Below.refl _ _) | (with_reducible assumption) | (with_reducible refine Below.alloc ?_ ?_ _) | (with_reducible refine below_drewN ?_ _) | (with_reducible refine Below.drew ?_) | (with_reducible refine Below.setCell ?_ ?_ _) | go_size)))); intro K hK; go_simp; first | (refine hK _ ?_; clear hK K) | (refine ⟨_, fun _ _ => rfl, hK _ ?_⟩; clear hK K))
    obtain ⟨W, HW⟩ : ∃ W, Hid (w1 = W) := ⟨_, Lib.hid rfl⟩
    obtain ⟨b6, Hb6⟩ : ∃ b6, Hid (V.heap.size = b6) := ⟨_, Lib.hid rfl⟩
    have hbW : Below V.heap.size V W := by rw [← HW.out]; exact hb1
    have hb6 : V.heap.size ≤ b6 := by rw [← Hb6.out]; exact Nat.le_refl _
    have hq6 : b6 ≤ V.heap.size := by rw [← Hb6.out]; exact Nat.le_refl _
    have hYW : Hid (Blk W b6 83 zeroRec) := Lib.hid (by rw [← HW.out, ← Hb6.out]; exact hYW.out)
    have HO1 : Hid (W.ownsRow V.heap.size 50 2 (.slice A1 S[n].s.r.rows.length c1) S[n].s.r.rows.length (rowCells S[n].s.r.rows)) := Lib.hid (by rw [← HW.out]; exact ownsRow_low ho1 (by first | (simp; done) | (simp; omega) | omega))
    have HO2 : Hid (W.ownsRow V.heap.size 132 2 (.slice A2 S[n].s.r.entries.length c2) S[n].s.r.entries.length (entCells S[n].s.r.entries)) := Lib.hid (by rw [← HW.out]; exact ownsRow_low ho2 (by first | (simp; done) | (simp; omega) | omega))
    rw [HW.out, Hb6.out]
    clear HW Hb6 ho1 ho2 hb1
  all_goals
    refine HW.solo (i := 10) rfl (by kernel_rfl) (by kernel_rfl) ?_
    intro K hK
    refine wp_store_mid 83 _ _ rfl b6 0 (recVal S[n].s.r (.slice A1 S[n].s.r.rows.length c1) (.slice A2 S[n].s.r.entries.length c2)) rfl rfl (hYW.out.there 0 15 (by simp [zeroRec])) (by kernel_rfl) (rec_one _ _ _ _ _ _ _) ?_
    have hb2 : Below V.heap.size V (W.setCells b6 0 (recVal S[n].s.r (.slice A1 S[n].s.r.rows.length c1) (.slice A2 S[n].s.r.entries.length c2)).toList) := below_setCs (g := b6) (B := V.heap.size) _ _ _ hbW hb6
    refine hK _ _ (by first | exact hb2 | exact hb2.mono hq6) ?_
    clear hK K
    have hY2 := hYW.out.setCs (recVal S[n].s.r (.slice A1 S[n].s.r.rows.length c1) (.slice A2 S[n].s.r.entries.length c2)).toList W 0
    have hFY : Fr [b6] W (W.setCells b6 0 (recVal S[n].s.r (.slice A1 S[n].s.r.rows.length c1) (.slice A2 S[n].s.r.entries.length c2)).toList) := Fr.setCs _ _ _ (Fr.refl _ _) (.inl (by simp))
    have ho1 := hFY.own HO1.out (freeOf_one hYW.out (by decide))
    have ho2 := hFY.own HO2.out (freeOf_one hYW.out (by decide))
    obtain ⟨V2, HV2⟩ : ∃ V2, Hid (W.setCells b6 0 (recVal S[n].s.r (.slice A1 S[n].s.r.rows.length c1) (.slice A2 S[n].s.r.entries.length c2)).toList = V2) := ⟨_, Lib.hid rfl⟩
    rw [HV2.out] at hb2 hY2 ho1 ho2 ⊢
    simp only [recVal, zeroRec, setN, List.set_cons_zero, List.set_cons_succ] at hY2
    have hM2 := Lib.hid (hMV.out.below hb2)
    have hX2 := Lib.hid (hXV.out.below hb2 hsx)
    have hZ2 := Lib.hid (hZV.out.below hb2 (by omega))
    have hY2 := Lib.hid hY2
    have hcY := fun i => hY2.out.cell i
    have hcX := fun i => hX2.out.cell i
    have hcZ := fun i => hZ2.out.cell i
    have hfZ := fun i => hZ2.out.frozen i
    have hy2 := hY2.out.lt
    have hx2 := hX2.out.lt
    have hz2 := hZ2.out.lt
    have HO3 := Lib.hid (And.intro ho1 ho2)
    clear HV2 hFY ho1 ho2 hcM HO1 HO2 hYW hbW
    refine HW.done (by kernel_rfl) ?_
    simp only [List.drop_succ_cons, List.drop_zero]
    go_wp2_with fail
    refine wp_region_head 5 (fun w' => Below V2.heap.size V2 w') (by kernel_rfl) (by kernel_rfl) ?_
    (refine HW.q (i := 0) rfl (by kernel_rfl) (fun _ _ _ _ h => h) ?_ ?_; (focus ((try dsimp only); exact (by repeat' (first | (with_reducible exact Below.refl _ _) | (with_reducible assumption) | (with_reducible refine Below.alloc ?_ ?_ _) | (with_reducible refine below_drewN ?_ _) | (with_reducible refine Below.drew ?_) | (with_reducible refine Below.setCell ?_ ?_ _) | go_size)))); intro K hK; go_simp; apply Exists.intro; refine ⟨fun w2 hw2 => ?_, hK _ ?_⟩; (focus (obtain ⟨hc2, hf2⟩ := bcell hw2; go_simp; first | done | rfl)); clear hK K)
    (refine HW.q (i := 1) rfl (by kernel_rfl) (fun _ _ _ _ h => h) ?_ ?_; (focus ((try dsimp only); exact (by repeat' (first | (with_reducible exact Below.refl _ _) | (with_reducible assumption) | (with_reducible refine Below.alloc ?_ ?_ _) | (with_reducible refine below_drewN ?_ _) | (with_reducible refine Below.drew ?_) | (with_reducible refine Below.setCell ?_ ?_ _) | go_size)))); intro K hK; go_simp; first | (refine hK _ ?_; clear hK K) | (refine ⟨_, fun _ _ => rfl, hK _ ?_⟩; clear hK K))
    (refine HW.q (i := 2) rfl (by kernel_rfl) (fun _ _ _ _ h => h) ?_ ?_; (focus ((try dsimp only); exact (by repeat' (first | (with_reducible exact Below.refl _ _) | (with_reducible assumption) | (with_reducible refine Below.alloc ?_ ?_ _) | (with_reducible refine below_drewN ?_ _) | (with_reducible refine Below.drew ?_) | (with_reducible refine Below.setCell ?_ ?_ _) | go_size)))); intro K hK; go_simp; apply Exists.intro; refine ⟨fun w2 hw2 => ?_, hK _ ?_⟩; (focus (obtain ⟨hc2, hf2⟩ := bcell hw2; go_simp; first | done | rfl)); clear hK K)
    (refine HW.q (i := 3) rfl (by kernel_rfl) (fun _ _ _ _ h => h) ?_ ?_; (focus ((try dsimp only); exact (by repeat' (first | (with_reducible exact Below.refl _ _) | (with_reducible assumption) | (with_reducible refine Below.alloc ?_ ?_ _) | (with_reducible refine below_drewN ?_ _) | (with_reducible refine Below.drew ?_) | (with_reducible refine Below.setCell ?_ ?_ _) | go_size)))); intro K hK; go_simp; first | (refine hK _ ?_; clear hK K) | (refine ⟨_, fun _ _ => rfl, hK _ ?_⟩; clear hK K))
    (refine HW.solo (i := 4) rfl (by kernel_rfl) (by kernel_rfl) ?_; intro K hK; go_simp)
    go_at_call 40
    refine (at_nil _ _ _).mono ?_
    rintro e w3 ⟨rfl, rfl⟩
    refine hK _ _ (by repeat' (first | (with_reducible exact Below.refl _ _) | (with_reducible assumption) | (with_reducible refine Below.alloc ?_ ?_ _) | (with_reducible refine below_drewN ?_ _) | (with_reducible refine Below.drew ?_) | (with_reducible refine Below.setCell ?_ ?_ _) | go_size)) ?_
    clear hK K
    refine HW.done (by kernel_rfl) ?_
    simp only [List.drop_succ_cons, List.drop_zero]
    go_wp2_with fail
    have hR := (hZ2.out.setCs (recVal S[n].s.r (.slice A1 S[n].s.r.rows.length c1) (.slice A2 S[n].s.r.entries.length c2)).toList V2 0).drew
    have hFX : Fr [w.heap.size + 1] V2 (V2.setCells (w.heap.size + 1) 0 (recVal S[n].s.r (.slice A1 S[n].s.r.rows.length c1) (.slice A2 S[n].s.r.entries.length c2)).toList).drew := (Fr.setCs _ _ _ (Fr.refl _ _) (.inl (by simp))).drew
    have ho1 := (ownsRow_setCs (g := w.heap.size + 1) (recVal S[n].s.r (.slice A1 S[n].s.r.rows.length c1) (.slice A2 S[n].s.r.entries.length c2)).toList _ 0 HO3.out.1 (by omega)).drew
    have ho2 := (ownsRow_setCs (g := w.heap.size + 1) (recVal S[n].s.r (.slice A1 S[n].s.r.rows.length c1) (.slice A2 S[n].s.r.entries.length c2)).toList _ 0 HO3.out.2 (by omega)).drew
    obtain ⟨V3, HV3⟩ : ∃ V3, Hid ((V2.setCells (w.heap.size + 1) 0 (recVal S[n].s.r (.slice A1 S[n].s.r.rows.length c1) (.slice A2 S[n].s.r.entries.length c2)).toList).drew = V3) := ⟨_, Lib.hid rfl⟩
    rw [HV3.out] at hR hFX ho1 ho2
    simp only [recVal, World.setCells, Nat.zero_add, Nat.reduceAdd] at HV3
    rw [HV3.out]
    clear HV3
    have hM3 := hM2.out.fr hFX (hM2.out.offRec hZ2.out)
    have hF3 := (hFV.then_below hb2).then_ hFX (by simp)
    have hcc := fun i => Blk.cell hR i
    simp only [recVal, setN, List.set_cons_zero, List.set_cons_succ, Nat.zero_add, Nat.reduceAdd] at hcc
    refine bodyPost_ret (v := .tuple #[.agg (recVal S[n].s.r (.slice A1 S[n].s.r.rows.length c1) (.slice A2 S[n].s.r.entries.length c2)), .nilIface]) ?_ rfl ⟨.slice A1 S[n].s.r.rows.length c1, .slice A2 S[n].s.r.entries.length c2, rfl, ⟨A1, c1, rfl, hle1, ownsRow_base ho1 (by omega)⟩, ⟨A2, c2, rfl, hle2, ownsRow_base ho2 (by omega)⟩, hM3, hF3⟩
    simp [results, Tryz.results94, go_sem, hcc, recVal]
end Go.Proofs.YthidclcliflhkaaGreat
end
section
open Go Go.RowKit
namespace Go.Proofs.YthidclcliflhkaaGreat

structure RecV where
  r : Rl.Rec
  rv : Value
  ev : Value
def recCells (x : RecV) : List Value := (recVal x.r x.rv x.ev).toList
theorem recCells_length (x : RecV) : (recCells x).length = 15 := rfl
/-- A slice of records. -/
structure ChainAt (w : World) (g c : Nat) (C : List RecV) : Prop where
  own : w.ownsRow 0 83 15 (.slice (some ⟨g, 0, none⟩) C.length c) C.length (C.flatMap recCells)
  recs : ∀ x ∈ C, RecAt w x.r x.rv x.ev
theorem ChainAt.keep {w w' : World} {g c : Nat} {C : List RecV} (h : ChainAt w g c C) (hb : Below w.heap.size w w') : ChainAt w' g c C := ⟨ownsRow_keep h.own hb, fun x hx => (h.recs x hx).keep hb⟩
theorem ChainAt.fr {F : List Nat} {w w' : World} {g c : Nat} {C : List RecV} (h : ChainAt w g c C) (hw : Fr F w w') (h0 : FreeOf w F 83) (h1 : FreeOf w F 50) (h2 : FreeOf w F 132) : ChainAt w' g c C :=
  ⟨hw.own h.own h0, fun x hx => (h.recs x hx).fr hw h1 h2⟩
theorem ChainAt.cell {w : World} {g c : Nat} {C : List RecV} (h : ChainAt w g c C) (k : Nat) (hk : k < C.length) (j : Nat) (hj : j < 15) : w.cell? ⟨g, k * 15 + j, none⟩ = (recCells C[k])[j]? := by
  rw [World.ownsRow.cellAt h.own _ (by omega)]
  exact flat_get recCells_length C k j hk hj
theorem ChainAt.lt {w : World} {g c : Nat} {C : List RecV} (h : ChainAt w g c C) : g < w.heap.size := (h.own.lt g rfl).2
/-- The view of a chain of puts above a base. -/
def viewAt : List RecV → Rl.LeafView
  | [] => {}
  | [b] => ⟨b.r.low, b.r.high, b.r.unb, b.r.right, b.r.rows, false⟩
  | x :: y :: l => { viewAt (y :: l) with rows := Rl.rowsPut (viewAt (y :: l)).rows ⟨x.r.key, x.r.value⟩ }
theorem viewAt_drop (C : List RecV) (j : Nat) (h : j + 1 < C.length) : viewAt (C.drop j) = { viewAt (C.drop (j + 1)) with rows := Rl.rowsPut (viewAt (C.drop (j + 1))).rows ⟨C[j].r.key, C[j].r.value⟩ } := by
  rw [List.drop_eq_getElem_cons (show j < C.length by omega), List.drop_eq_getElem_cons h]; rfl
theorem viewAt_last (C : List RecV) (m : Nat) (h : C.length = m + 1) : viewAt (C.drop m) = ⟨C[m].r.low, C[m].r.high, C[m].r.unb, C[m].r.right, C[m].r.rows, false⟩ := by
  rw [List.drop_eq_getElem_cons (show m < C.length by omega), List.drop_eq_nil_of_le (by omega)]; rfl
/-- A chain of puts above a base that may be. -/
structure PutsOk (C : List RecV) (m : Nat) : Prop where
  len : C.length = m + 1
  short : m ≤ 4096
  base : ∀ h : m < C.length, C[m].r.kind = 1 ∧ Rl.leafSound C[m].r.rows C[m].r.low C[m].r.high C[m].r.unb = true ∧ C[m].r.rows.length ≤ 1099511620000
  puts : ∀ i (h : i < m) (h' : i < C.length), ∀ hm : m < C.length, C[i].r.kind = 2 ∧ Rl.Row.fits ⟨C[i].r.key, C[i].r.value⟩ = true ∧ Rl.inSpan C[m].r.low C[m].r.high C[m].r.unb C[i].r.key = true
  ok : ∀ x ∈ C, RecOk x.r
theorem rowsPut_length (l : List Rl.Row) (r : Rl.Row) : (Rl.rowsPut l r).length ≤ l.length + 1 := by
  have h1 := Rl.rowsPlace_le l r.key
  unfold Rl.rowsPut
  simp only [List.length_append, List.length_take, List.length_cons, List.length_drop]
  split <;> omega
theorem rowsPut_mem {l : List Rl.Row} {r x : Rl.Row} (h : x ∈ Rl.rowsPut l r) : x ∈ l ∨ x = r := by
  unfold Rl.rowsPut at h
  rcases List.mem_append.1 h with h | h
  · exact .inl (List.mem_of_mem_take h)
  · rcases List.mem_cons.1 h with h | h
    · exact .inr h
    · exact .inl (List.mem_of_mem_drop h)
theorem PutsOk.view {C : List RecV} {m : Nat} (h : PutsOk C m) : ∀ (d j : Nat), m = j + d → (viewAt (C.drop j)).low = (C[m]'(by have := h.len; omega)).r.low ∧ (viewAt (C.drop j)).high = (C[m]'(by have := h.len; omega)).r.high ∧ (viewAt (C.drop j)).unb = (C[m]'(by have := h.len; omega)).r.unb ∧
    (viewAt (C.drop j)).gone = false ∧ (viewAt (C.drop j)).rows.length ≤ 1099511620000 + d ∧ ∀ x ∈ (viewAt (C.drop j)).rows, x.key.size ≤ maxLen ∧ x.value.size ≤ maxLen
  | 0, j, hj => by
    have hl := h.len
    obtain rfl : j = m := by omega
    rw [viewAt_last C j hl]
    obtain ⟨_, _, hb⟩ := h.base (by omega)
    refine ⟨rfl, rfl, rfl, rfl, by simpa using hb, ?_⟩
    exact (h.ok C[j] (List.getElem_mem _)).rows.2
  | d + 1, j, hj => by
    have hl := h.len
    obtain ⟨h1, h2, h3, h4, h5, h6⟩ := h.view d (j + 1) (by omega)
    rw [viewAt_drop C j (by omega)]
    refine ⟨h1, h2, h3, h4, ?_, ?_⟩
    · have := rowsPut_length (viewAt (C.drop (j + 1))).rows ⟨C[j].r.key, C[j].r.value⟩
      show (Rl.rowsPut _ _).length ≤ _
      omega
    · intro x hx
      rcases rowsPut_mem hx with hx | rfl
      · exact h6 x hx
      · exact ⟨(h.ok C[j] (List.getElem_mem _)).key, (h.ok C[j] (List.getElem_mem _)).value⟩
theorem PutsOk.leafOk {C : List RecV} {m : Nat} (h : PutsOk C m) (j : Nat) (hj : j ≤ m) : LeafOk (viewAt (C.drop j)) := by
  obtain ⟨h1, h2, h3, h4, h5, h6⟩ := h.view (m - j) j (by omega)
  have hs := h.short
  have hl := h.len
  exact ⟨by rw [h1]; exact (h.ok _ (List.getElem_mem _)).low, by rw [h2]; exact (h.ok _ (List.getElem_mem _)).high, ⟨by omega, h6⟩⟩
end Go.Proofs.YthidclcliflhkaaGreat
end
