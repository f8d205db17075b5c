/- The loader's page: contracts. A thread's accesses: contracts: the walk's, the installer's. What the thread's small functions compute: contracts: the call that may be (the document's), NewThread, Start, Reply. What fault.Is tells of a code: contracts. -/
import Derived.Test.YthidclcliflhkaaGreatZ01
import Derived.Test.YthidclcliflhkaaGreatZ04
import Derived.Test.YthidclcliflhkaaGreatZ06
import Derived.Test.YthidclcliflhkaaGreatZ09
import Derived.Test.YthidclcliflhkaaGreatZ11
import Derived.Test.YthidclcliflhkaaGreatZ12
import Derived.Test.YthidclcliflhkaaGreatZ18
import Derived.LaidEql
import Derived.Stop.Asserts
import Derived.RowKitTokens
section
open Go Go.RowKit
namespace Go.Proofs.YthidclcliflhkaaGreat

set_option maxRecDepth 100000 in
set_option maxHeartbeats 1000000 in
theorem lpage1_any (bq bl : Nat) (pn hs hg xs xg : Int) (C : List RecV) (m g c : Nat) (R : Option Addr) (rn rc : Nat) (fs : List Value) (w : World) (hq : Blk w bq 188 #[.pointer (some ⟨bl, 0, none⟩)])
    (hL : Blk w bl 203 (loadC pn true true hs hg xs xg (.slice (some ⟨g, 0, none⟩) C.length c) (.slice R rn rc) .nilIface))
    (hC : ChainAt w g c C) (hP : PutsOk C m) (hR : Reads w w.heap.size 2 R rn fs) (hf1 : ∀ u ∈ fs, u.oneCell' = true) (hrn : rn ≤ 4097) :
    Calls Tryz.prog 101 #[.pointer (some ⟨bq, 0, none⟩)] w fun e w' => ∃ A1 c1 A2 c2 rv, e = .returned (.tuple #[.agg (pageVal pn hs hg (.slice A1 C.length c1) (.slice A2 rn c2) true (viewAt C) rv), .nilIface]) ∧
      OwnV w' w.heap.size rv (viewAt C).rows ∧ Below w.heap.size w w' := by
  have HQ := Lib.hid hq
  have HL := Lib.hid hL
  have HC := Lib.hid hC
  have HP := Lib.hid hP
  have HR := Lib.hid hR
  clear hq hL hC hP hR
  go_enter Tryz.func101, Tryz.ntmps101
  go_wp2_with fail
  refine wp_name ?_
  intro V HV
  have hZV := Lib.hid (show Blk V w.heap.size 128 (pageVal 0 0 0 (.slice none 0 0) (.slice none 0 0) false {} (.slice none 0 0)) by rw [← HV.out]; exact Blk.new_at rfl)
  have hbV : Below w.heap.size w V := by rw [← HV.out]; exact (by repeat' (first | (with_reducible exact Below.refl _ _) | (with_reducible assumption) | (with_reducible refine Below.alloc ?_ ?_ _) | (with_reducible refine below_drewN ?_ _) | (with_reducible refine Below.drew ?_) | (with_reducible refine Below.setCell ?_ ?_ _) | go_size))
  clear HV
  have hQV := Lib.hid (HQ.out.below hbV HQ.out.lt)
  have hLV := Lib.hid (HL.out.below hbV HL.out.lt)
  have hCV := Lib.hid (HC.out.keep hbV)
  have hRV := Lib.hid (HR.out.below hbV)
  have hqV := hQV.out.lt
  have hlV := hLV.out.lt
  have hzV := hZV.out.lt
  have hcQ := fun i => hQV.out.cell i
  have hcL := fun i => hLV.out.cell i
  have hws := hbV.size
  simp only [loadC] at hcL
  refine wp_region_head 19 (fun w' => Below V.heap.size V w') (by kernel_rfl) (by kernel_rfl) ?_
  (refine HW.q (i := 0) rfl (by kernel_rfl) (fun _ _ _ _ h => h) ?_ ?_; (focus ((try dsimp only); exact (by repeat' (first | (with_reducible exact Below.refl _ _) | (with_reducible assumption) | (with_reducible refine Below.alloc ?_ ?_ _) | (with_reducible refine below_drewN ?_ _) | (with_reducible refine Below.drew ?_) | (with_reducible refine Below.setCell ?_ ?_ _) | go_size)))); intro K hK; go_simp; apply Exists.intro; refine ⟨fun w2 hw2 => ?_, hK _ ?_⟩; (focus (obtain ⟨hc2, hf2⟩ := bcell hw2; go_simp; first | done | rfl)); clear hK K)
  (refine HW.q (i := 1) rfl (by kernel_rfl) (fun _ _ _ _ h => h) ?_ ?_; (focus ((try dsimp only); exact (by repeat' (first | (with_reducible exact Below.refl _ _) | (with_reducible assumption) | (with_reducible refine Below.alloc ?_ ?_ _) | (with_reducible refine below_drewN ?_ _) | (with_reducible refine Below.drew ?_) | (with_reducible refine Below.setCell ?_ ?_ _) | go_size)))); intro K hK; go_simp; first | (refine hK _ ?_; clear hK K) | (refine ⟨_, fun _ _ => rfl, hK _ ?_⟩; clear hK K))
  (refine HW.q (i := 2) rfl (by kernel_rfl) (fun _ _ _ _ h => h) ?_ ?_; (focus ((try dsimp only); exact (by repeat' (first | (with_reducible exact Below.refl _ _) | (with_reducible assumption) | (with_reducible refine Below.alloc ?_ ?_ _) | (with_reducible refine below_drewN ?_ _) | (with_reducible refine Below.drew ?_) | (with_reducible refine Below.setCell ?_ ?_ _) | go_size)))); intro K hK; go_simp; first | (refine hK _ ?_; clear hK K) | (refine ⟨_, fun _ _ => rfl, hK _ ?_⟩; clear hK K))
  (refine HW.q (i := 3) rfl (by kernel_rfl) (fun _ _ _ _ h => h) ?_ ?_; (focus ((try dsimp only); exact (by repeat' (first | (with_reducible exact Below.refl _ _) | (with_reducible assumption) | (with_reducible refine Below.alloc ?_ ?_ _) | (with_reducible refine below_drewN ?_ _) | (with_reducible refine Below.drew ?_) | (with_reducible refine Below.setCell ?_ ?_ _) | go_size)))); intro K hK; go_simp; apply Exists.intro; refine ⟨fun w2 hw2 => ?_, hK _ ?_⟩; (focus (obtain ⟨hc2, hf2⟩ := bcell hw2; go_simp; first | done | rfl)); clear hK K)
  (refine HW.q (i := 4) rfl (by kernel_rfl) (fun _ _ _ _ h => h) ?_ ?_; (focus ((try dsimp only); exact (by repeat' (first | (with_reducible exact Below.refl _ _) | (with_reducible assumption) | (with_reducible refine Below.alloc ?_ ?_ _) | (with_reducible refine below_drewN ?_ _) | (with_reducible refine Below.drew ?_) | (with_reducible refine Below.setCell ?_ ?_ _) | go_size)))); intro K hK; go_simp; apply Exists.intro; refine ⟨fun w2 hw2 => ?_, hK _ ?_⟩; (focus (obtain ⟨hc2, hf2⟩ := bcell hw2; go_simp; first | done | rfl)); clear hK K)
  (refine HW.q (i := 5) rfl (by kernel_rfl) (fun _ _ _ _ h => h) ?_ ?_; (focus ((try dsimp only); exact (by repeat' (first | (with_reducible exact Below.refl _ _) | (with_reducible assumption) | (with_reducible refine Below.alloc ?_ ?_ _) | (with_reducible refine below_drewN ?_ _) | (with_reducible refine Below.drew ?_) | (with_reducible refine Below.setCell ?_ ?_ _) | go_size)))); intro K hK; go_simp; first | (refine hK _ ?_; clear hK K) | (refine ⟨_, fun _ _ => rfl, hK _ ?_⟩; clear hK K))
  (refine HW.q (i := 6) rfl (by kernel_rfl) (fun _ _ _ _ h => h) ?_ ?_; (focus ((try dsimp only); exact (by repeat' (first | (with_reducible exact Below.refl _ _) | (with_reducible assumption) | (with_reducible refine Below.alloc ?_ ?_ _) | (with_reducible refine below_drewN ?_ _) | (with_reducible refine Below.drew ?_) | (with_reducible refine Below.setCell ?_ ?_ _) | go_size)))); intro K hK; go_simp; first | (refine hK _ ?_; clear hK K) | (refine ⟨_, fun _ _ => rfl, hK _ ?_⟩; clear hK K))
  (refine HW.q (i := 7) rfl (by kernel_rfl) (fun _ _ _ _ h => h) ?_ ?_; (focus ((try dsimp only); exact (by repeat' (first | (with_reducible exact Below.refl _ _) | (with_reducible assumption) | (with_reducible refine Below.alloc ?_ ?_ _) | (with_reducible refine below_drewN ?_ _) | (with_reducible refine Below.drew ?_) | (with_reducible refine Below.setCell ?_ ?_ _) | go_size)))); intro K hK; go_simp; apply Exists.intro; refine ⟨fun w2 hw2 => ?_, hK _ ?_⟩; (focus (obtain ⟨hc2, hf2⟩ := bcell hw2; go_simp; first | done | rfl)); clear hK K)
  (refine HW.q (i := 8) rfl (by kernel_rfl) (fun _ _ _ _ h => h) ?_ ?_; (focus ((try dsimp only); exact (by repeat' (first | (with_reducible exact Below.refl _ _) | (with_reducible assumption) | (with_reducible refine Below.alloc ?_ ?_ _) | (with_reducible refine below_drewN ?_ _) | (with_reducible refine Below.drew ?_) | (with_reducible refine Below.setCell ?_ ?_ _) | go_size)))); intro K hK; go_simp; apply Exists.intro; refine ⟨fun w2 hw2 => ?_, hK _ ?_⟩; (focus (obtain ⟨hc2, hf2⟩ := bcell hw2; go_simp; first | done | rfl)); clear hK K)
  (refine HW.q (i := 9) rfl (by kernel_rfl) (fun _ _ _ _ h => h) ?_ ?_; (focus ((try dsimp only); exact (by repeat' (first | (with_reducible exact Below.refl _ _) | (with_reducible assumption) | (with_reducible refine Below.alloc ?_ ?_ _) | (with_reducible refine below_drewN ?_ _) | (with_reducible refine Below.drew ?_) | (with_reducible refine Below.setCell ?_ ?_ _) | go_size)))); intro K hK; go_simp; first | (refine hK _ ?_; clear hK K) | (refine ⟨_, fun _ _ => rfl, hK _ ?_⟩; clear hK K))
  (refine HW.q (i := 10) rfl (by kernel_rfl) (fun _ _ _ _ h => h) ?_ ?_; (focus ((try dsimp only); exact (by repeat' (first | (with_reducible exact Below.refl _ _) | (with_reducible assumption) | (with_reducible refine Below.alloc ?_ ?_ _) | (with_reducible refine below_drewN ?_ _) | (with_reducible refine Below.drew ?_) | (with_reducible refine Below.setCell ?_ ?_ _) | go_size)))); intro K hK; go_simp; first | (refine hK _ ?_; clear hK K) | (refine ⟨_, fun _ _ => rfl, hK _ ?_⟩; clear hK K))
  (refine HW.q (i := 11) rfl (by kernel_rfl) (fun _ _ _ _ h => h) ?_ ?_; (focus ((try dsimp only); exact (by repeat' (first | (with_reducible exact Below.refl _ _) | (with_reducible assumption) | (with_reducible refine Below.alloc ?_ ?_ _) | (with_reducible refine below_drewN ?_ _) | (with_reducible refine Below.drew ?_) | (with_reducible refine Below.setCell ?_ ?_ _) | go_size)))); intro K hK; go_simp; apply Exists.intro; refine ⟨fun w2 hw2 => ?_, hK _ ?_⟩; (focus (obtain ⟨hc2, hf2⟩ := bcell hw2; go_simp; first | done | rfl)); clear hK K)
  (refine HW.q (i := 12) rfl (by kernel_rfl) (fun _ _ _ _ h => h) ?_ ?_; (focus ((try dsimp only); exact (by repeat' (first | (with_reducible exact Below.refl _ _) | (with_reducible assumption) | (with_reducible refine Below.alloc ?_ ?_ _) | (with_reducible refine below_drewN ?_ _) | (with_reducible refine Below.drew ?_) | (with_reducible refine Below.setCell ?_ ?_ _) | go_size)))); intro K hK; go_simp; apply Exists.intro; refine ⟨fun w2 hw2 => ?_, hK _ ?_⟩; (focus (obtain ⟨hc2, hf2⟩ := bcell hw2; go_simp; first | done | rfl)); clear hK K)
  (refine HW.q (i := 13) rfl (by kernel_rfl) (fun _ _ _ _ h => h) ?_ ?_; (focus ((try dsimp only); exact (by repeat' (first | (with_reducible exact Below.refl _ _) | (with_reducible assumption) | (with_reducible refine Below.alloc ?_ ?_ _) | (with_reducible refine below_drewN ?_ _) | (with_reducible refine Below.drew ?_) | (with_reducible refine Below.setCell ?_ ?_ _) | go_size)))); intro K hK; go_simp; first | (refine hK _ ?_; clear hK K) | (refine ⟨_, fun _ _ => rfl, hK _ ?_⟩; clear hK K))
  (refine HW.q (i := 14) rfl (by kernel_rfl) (fun _ _ _ _ h => h) ?_ ?_; (focus ((try dsimp only); exact (by repeat' (first | (with_reducible exact Below.refl _ _) | (with_reducible assumption) | (with_reducible refine Below.alloc ?_ ?_ _) | (with_reducible refine below_drewN ?_ _) | (with_reducible refine Below.drew ?_) | (with_reducible refine Below.setCell ?_ ?_ _) | go_size)))); intro K hK; go_simp; first | (refine hK _ ?_; clear hK K) | (refine ⟨_, fun _ _ => rfl, hK _ ?_⟩; clear hK K))
  (refine HW.q (i := 15) rfl (by kernel_rfl) (fun _ _ _ _ h => h) ?_ ?_; (focus ((try dsimp only); exact (by repeat' (first | (with_reducible exact Below.refl _ _) | (with_reducible assumption) | (with_reducible refine Below.alloc ?_ ?_ _) | (with_reducible refine below_drewN ?_ _) | (with_reducible refine Below.drew ?_) | (with_reducible refine Below.setCell ?_ ?_ _) | go_size)))); intro K hK; go_simp; apply Exists.intro; refine ⟨fun w2 hw2 => ?_, hK _ ?_⟩; (focus (obtain ⟨hc2, hf2⟩ := bcell hw2; go_simp; first | done | rfl)); clear hK K)
  (refine HW.solo (i := 16) rfl (by kernel_rfl) (by kernel_rfl) ?_; intro K hK; go_simp)
  go_at_call 48
  refine (of_any pn hs hg C m g c R rn rc fs _ (hCV.out.keep (by repeat' (first | (with_reducible exact Below.refl _ _) | (with_reducible assumption) | (with_reducible refine Below.alloc ?_ ?_ _) | (with_reducible refine below_drewN ?_ _) | (with_reducible refine Below.drew ?_) | (with_reducible refine Below.setCell ?_ ?_ _) | go_size))) HP.out ((hRV.out.below (show Below w.heap.size V _ from (show Below V.heap.size V _ from (by repeat' (first | (with_reducible exact Below.refl _ _) | (with_reducible assumption) | (with_reducible refine Below.alloc ?_ ?_ _) | (with_reducible refine below_drewN ?_ _) | (with_reducible refine Below.drew ?_) | (with_reducible refine Below.setCell ?_ ?_ _) | go_size))).mono hws)).more (by simp; omega)) hf1 hrn).mono ?_
  rintro e w1 ⟨A1, c1, A2, c2, rv, rfl, hO, hb1⟩
  have hb1 : Below V.heap.size V w1 := below_to (by repeat' (first | (with_reducible exact Below.refl _ _) | (with_reducible assumption) | (with_reducible refine Below.alloc ?_ ?_ _) | (with_reducible refine below_drewN ?_ _) | (with_reducible refine Below.drew ?_) | (with_reducible refine Below.setCell ?_ ?_ _) | go_size)) hb1
  refine hK _ _ hb1 ?_
  clear hK K
  (refine HW.q (i := 17) rfl (by kernel_rfl) (fun _ _ _ _ h => h) ?_ ?_; (focus ((try dsimp only); exact (by repeat' (first | (with_reducible exact Below.refl _ _) | (with_reducible assumption) | (with_reducible refine Below.alloc ?_ ?_ _) | (with_reducible refine below_drewN ?_ _) | (with_reducible refine Below.drew ?_) | (with_reducible refine Below.setCell ?_ ?_ _) | go_size)))); intro K hK; go_simp; first | (refine hK _ ?_; clear hK K) | (refine ⟨_, fun _ _ => rfl, hK _ ?_⟩; clear hK K))
  (refine HW.q (i := 18) rfl (by kernel_rfl) (fun _ _ _ _ h => h) ?_ ?_; (focus ((try dsimp only); exact (by repeat' (first | (with_reducible exact Below.refl _ _) | (with_reducible assumption) | (with_reducible refine Below.alloc ?_ ?_ _) | (with_reducible refine below_drewN ?_ _) | (with_reducible refine Below.drew ?_) | (with_reducible refine Below.setCell ?_ ?_ _) | go_size)))); intro K hK; go_simp; first | (refine hK _ ?_; clear hK K) | (refine ⟨_, fun _ _ => rfl, hK _ ?_⟩; clear hK K))
  refine HW.done (by kernel_rfl) ?_
  simp only [List.drop_succ_cons, List.drop_zero]
  obtain ⟨A3, c3, rfl, hle3, hO3⟩ := hO
  have HZ1 := hZV.out.below hb1 hzV
  refine wpList_store_mid rfl 128 _ _ rfl w.heap.size 0 (pageVal pn hs hg (.slice A1 C.length c1) (.slice A2 rn c2) true (viewAt C) (.slice A3 (viewAt C).rows.length c3)) rfl rfl (HZ1.there 0 21 (by simp [pageVal])) (by kernel_rfl) (page_one _ _ _ _ _ _ _ _ _ _ _ _ _ _) ?_
  have hZ2 := HZ1.setCs (pageVal pn hs hg (.slice A1 C.length c1) (.slice A2 rn c2) true (viewAt C) (.slice A3 (viewAt C).rows.length c3)).toList w1 0
  have hb2 : Below w.heap.size w (w1.setCells w.heap.size 0 (pageVal pn hs hg (.slice A1 C.length c1) (.slice A2 rn c2) true (viewAt C) (.slice A3 (viewAt C).rows.length c3)).toList) := below_setCs (g := w.heap.size) (B := w.heap.size) _ _ _ (below_to hbV hb1) (Nat.le_refl _)
  have ho2 := ownsRow_setCs (g := w.heap.size) (pageVal pn hs hg (.slice A1 C.length c1) (.slice A2 rn c2) true (viewAt C) (.slice A3 (viewAt C).rows.length c3)).toList w1 0 hO3 (by simp; omega)
  obtain ⟨V2, HV2⟩ : ∃ V2, Hid (w1.setCells w.heap.size 0 (pageVal pn hs hg (.slice A1 C.length c1) (.slice A2 rn c2) true (viewAt C) (.slice A3 (viewAt C).rows.length c3)).toList = V2) := ⟨_, Lib.hid rfl⟩
  rw [HV2.out] at hZ2 hb2 ho2 ⊢
  simp only [pageVal, setN, List.set_cons_zero, List.set_cons_succ] at hZ2
  have hZ2 := Lib.hid (show Blk V2 w.heap.size 128 (pageVal pn hs hg (.slice A1 C.length c1) (.slice A2 rn c2) true (viewAt C) (.slice A3 (viewAt C).rows.length c3)) from hZ2)
  have HO := Lib.hid ho2
  clear HV2 hcQ hcL HZ1 hO3 ho2
  go_wp2_with fail
  exact bodyPost_ret (v := .tuple #[.agg (pageVal pn hs hg (.slice A1 C.length c1) (.slice A2 rn c2) true (viewAt C) (.slice A3 (viewAt C).rows.length c3)), .nilIface]) (results_cell_tmp rfl rfl hZ2.out Tryz.underlying128 rfl (by kernel_rfl) rfl) rfl
    ⟨A1, c1, A2, c2, .slice A3 (viewAt C).rows.length c3, rfl, ⟨A3, c3, rfl, hle3, ownsRow_base HO.out (by simp; omega)⟩, hb2⟩
set_option maxRecDepth 100000 in
set_option maxHeartbeats 1000000 in
theorem lpage_any (bl : Nat) (pn hs hg xs xg : Int) (C : List RecV) (m g c : Nat) (R : Option Addr) (rn rc : Nat) (fs : List Value) (w : World)
    (hL : Blk w bl 203 (loadC pn true true hs hg xs xg (.slice (some ⟨g, 0, none⟩) C.length c) (.slice R rn rc) .nilIface))
    (hC : ChainAt w g c C) (hP : PutsOk C m) (hR : Reads w w.heap.size 2 R rn fs) (hf1 : ∀ u ∈ fs, u.oneCell' = true) (hrn : rn ≤ 4097) :
    Calls Tryz.prog 82 #[.pointer (some ⟨bl, 0, none⟩)] w fun e w' => ∃ A1 c1 A2 c2 rv, e = .returned (.tuple #[.agg (pageVal pn hs hg (.slice A1 C.length c1) (.slice A2 rn c2) true (viewAt C) rv), .nilIface]) ∧
      OwnV w' w.heap.size rv (viewAt C).rows ∧ Below w.heap.size w w' := by
  have hlt := hL.lt
  have hcL := fun i => hL.cell i
  simp only [loadC] at hcL
  have HL := Lib.hid hL
  have HC := Lib.hid hC
  have HP := Lib.hid hP
  have HR := Lib.hid hR
  clear hL hC hP hR
  go_enter Tryz.func82, Tryz.ntmps82
  go_wp2_with fail
  refine (lpage1_any w.heap.size bl pn hs hg xs xg C m g c R rn rc fs _ (Blk.alloc (Blk.new_at rfl) _) ((HL.out.alloc _).alloc _) (HC.out.keep (by repeat' (first | (with_reducible exact Below.refl _ _) | (with_reducible assumption) | (with_reducible refine Below.alloc ?_ ?_ _) | (with_reducible refine below_drewN ?_ _) | (with_reducible refine Below.drew ?_) | (with_reducible refine Below.setCell ?_ ?_ _) | go_size))) HP.out ((HR.out.below (by repeat' (first | (with_reducible exact Below.refl _ _) | (with_reducible assumption) | (with_reducible refine Below.alloc ?_ ?_ _) | (with_reducible refine below_drewN ?_ _) | (with_reducible refine Below.drew ?_) | (with_reducible refine Below.setCell ?_ ?_ _) | go_size))).more (by first | (simp; done) | (simp; omega) | omega)) hf1 hrn).mono ?_
  rintro e w1 ⟨A1, c1, A2, c2, rv, rfl, hO, hb1⟩
  obtain ⟨A3, c3, rfl, hle3, hO3⟩ := hO
  have h0 : Blk ((w.alloc (.cells #[.pointer (some ⟨bl, 0, none⟩)] 188)).alloc (.cells (pageVal 0 0 0 (.slice none 0 0) (.slice none 0 0) false {} (.slice none 0 0)) 128)) (w.heap.size + 1) 128 (pageVal 0 0 0 (.slice none 0 0) (.slice none 0 0) false {} (.slice none 0 0)) := Blk.new_at (by first | (simp; done) | (simp; omega) | omega)
  have HZ1 := h0.below hb1 (by first | (simp; done) | (simp; omega) | omega)
  have hb1 : Below w.heap.size w w1 := below_to (by repeat' (first | (with_reducible exact Below.refl _ _) | (with_reducible assumption) | (with_reducible refine Below.alloc ?_ ?_ _) | (with_reducible refine below_drewN ?_ _) | (with_reducible refine Below.drew ?_) | (with_reducible refine Below.setCell ?_ ?_ _) | go_size)) hb1
  have hs1 := hb1.size
  clear hcL h0
  go_wp2_with (refine wpList_store_mid rfl 128 _ _ rfl (w.heap.size + 1) 0 (pageVal pn hs hg (.slice A1 C.length c1) (.slice A2 rn c2) true (viewAt C) (.slice A3 (viewAt C).rows.length c3)) rfl rfl (HZ1.there 0 21 (by simp [pageVal])) (by kernel_rfl) (page_one _ _ _ _ _ _ _ _ _ _ _ _ _ _) ?_
               have hZ2 := HZ1.setCs (pageVal pn hs hg (.slice A1 C.length c1) (.slice A2 rn c2) true (viewAt C) (.slice A3 (viewAt C).rows.length c3)).toList w1 0
               have hb2 : Below w.heap.size w (w1.setCells (w.heap.size + 1) 0 (pageVal pn hs hg (.slice A1 C.length c1) (.slice A2 rn c2) true (viewAt C) (.slice A3 (viewAt C).rows.length c3)).toList) := below_setCs (g := w.heap.size + 1) (B := w.heap.size) _ _ _ hb1 (Nat.le_succ _)
               have ho2 := ownsRow_setCs (g := w.heap.size + 1) (pageVal pn hs hg (.slice A1 C.length c1) (.slice A2 rn c2) true (viewAt C) (.slice A3 (viewAt C).rows.length c3)).toList w1 0 hO3 (by simp)
               obtain ⟨V2, HV2⟩ : ∃ V2, Hid (w1.setCells (w.heap.size + 1) 0 (pageVal pn hs hg (.slice A1 C.length c1) (.slice A2 rn c2) true (viewAt C) (.slice A3 (viewAt C).rows.length c3)).toList = V2) := ⟨_, Lib.hid rfl⟩
               rw [HV2.out] at hZ2 hb2 ho2 ⊢
               simp only [pageVal, setN, List.set_cons_zero, List.set_cons_succ] at hZ2
               have hZ2 := Lib.hid (show Blk V2 (w.heap.size + 1) 128 (pageVal pn hs hg (.slice A1 C.length c1) (.slice A2 rn c2) true (viewAt C) (.slice A3 (viewAt C).rows.length c3)) from hZ2)
               have HO := Lib.hid ho2
               clear HV2 HZ1 hO3 ho2)
  exact bodyPost_ret (v := .tuple #[.agg (pageVal pn hs hg (.slice A1 C.length c1) (.slice A2 rn c2) true (viewAt C) (.slice A3 (viewAt C).rows.length c3)), .nilIface]) (results_cell_tmp rfl rfl hZ2.out Tryz.underlying128 rfl (by kernel_rfl) rfl) rfl
    ⟨A1, c1, A2, c2, .slice A3 (viewAt C).rows.length c3, rfl, ⟨A3, c3, rfl, hle3, ownsRow_base HO.out (by simp; omega)⟩, hb2⟩
end Go.Proofs.YthidclcliflhkaaGreat
end
section
open Go Go.RowKit
namespace Go.Proofs.YthidclcliflhkaaGreat

/-- A thread that walks, its loader behind the head. -/
structure WalkL (w : World) (bt : Nat) (nn hs hg : Int) (n : Int) (bg : Bool) (kind : Int) (key val : ByteArray) (wr : Bool) (rs : ByteArray) (re : Value) (bl bq bx : Nat) : Prop where
  l : Blk w bl 203 (loadC nn true false hs hg hs hg (.slice none 0 0) (.slice none 0 0) .nilIface)
  q : Blk w bq 188 #[.pointer (some ⟨bl, 0, none⟩)]
  x : Blk w bx 25 #[.pointer (some ⟨bt, 0, none⟩)]
  t : Blk w bt 66 (thrC n bg kind key val wr rs re (walkFn bq bx))
theorem MemAt.nF {w : World} {b : MB} {lim : Rl.Limits} {count : Int} {S : List SlotV} {T : List Rl.Pg} {now : Int} {k : Nat} {D : DataW Unit} (h : MemAt w b lim count S T now k D) {g : Nat} {t : TypeId} {cs : Array Value} (hb : Blk w g t cs) (h1 : t ≠ 79) (h2 : t ≠ 120) (h3 : t ≠ 123) (h4 : t ≠ 117) : g ∉ b.F := fun hg =>
  h.freeF t h1 h2 h3 h4 g hg _ _ hb
set_option maxRecDepth 100000 in
set_option maxHeartbeats 1000000 in
theorem walk1_head (bt : Nat) (pn : Nat) (n : Int) (bg : Bool) (kind : Int) (key val : ByteArray) (wr : Bool) (rs : ByteArray) (re : Value) (bl bq bx : Nat) (b : MB) (lim : Rl.Limits) (count : Int) (S : List SlotV) (T : List Rl.Pg) (now : Int) (k : Nat) (D : DataW Unit) (w : World)
    (hW : Walks w bt pn n bg kind key val wr rs re bl bq bx) (hM : MemAt w b lim count S T now k D) (hk : pn < T.length) (hlen : T.length ≤ 256) (hu : T[pn].used = true) (hh : ¬ T[pn].head.slot = 0) (hc0 : 0 ≤ count) (hc1 : count ≤ 1099511627776) :
    Calls Tryz.prog 80 #[.pointer (some ⟨b.m, 0, none⟩), .pointer (some ⟨bq, 0, none⟩), .pointer (some ⟨bx, 0, none⟩)] w fun e w' => e = .returned (.bool false) ∧
      WalkL w' bt pn T[pn].head.slot T[pn].head.gen n bg kind key val wr rs re bl bq bx ∧ MemAt w' b lim (count + 1) S T now k D ∧ Fr (bl :: b.F) w w' := by
  have hql := hW.q.lt
  have hcQ := fun i => hW.q.cell i
  have hlt := hW.l.lt
  have HWk := Lib.hid hW
  have HM := Lib.hid hM
  clear hW hM
  go_enter Tryz.func80, Tryz.ntmps80
  go_wp2_with (go_at_call 81
               refine (lstep_head bl pn b lim count S T now k D _ HWk.out.l HM.out hk hlen hu hh hc0 hc1).mono ?_
               rintro e w1 ⟨rfl, hL1, hM1, hF1⟩)
  have nq : bq ∉ bl :: b.F := by
    intro h
    rcases List.mem_cons.1 h with h | h
    · exact Blk.ne_ HWk.out.q HWk.out.l (by decide) h
    · exact HM.out.nF HWk.out.q (by decide) (by decide) (by decide) (by decide) h
  have nx : bx ∉ bl :: b.F := by
    intro h
    rcases List.mem_cons.1 h with h | h
    · exact Blk.ne_ HWk.out.x HWk.out.l (by decide) h
    · exact HM.out.nF HWk.out.x (by decide) (by decide) (by decide) (by decide) h
  have nt : bt ∉ bl :: b.F := by
    intro h
    rcases List.mem_cons.1 h with h | h
    · exact Blk.ne_ HWk.out.t HWk.out.l (by decide) h
    · exact HM.out.nF HWk.out.t (by decide) (by decide) (by decide) (by decide) h
  go_ret
  exact ⟨rfl, ⟨hL1, hF1.blk HWk.out.q nq, hF1.blk HWk.out.x nx, hF1.blk HWk.out.t nt⟩, hM1, hF1⟩
set_option maxRecDepth 100000 in
set_option maxHeartbeats 2000000 in
theorem walk1_ins (bt : Nat) (pn hs hg : Int) (n : Int) (bg : Bool) (key val : ByteArray) (rs : ByteArray) (re : Value) (bl bq bx : Nat) (sn : Nat) (b : MB) (lim : Rl.Limits) (count : Int) (S : List SlotV) (T : List Rl.Pg) (now : Int) (k : Nat) (D : DataW Unit) (w : World)
    (hW : WalkL w bt pn (sn + 1) hg n bg 2 key val true rs re bl bq bx) (hM : MemAt w b lim count S T now k D) (hc0 : 0 ≤ count) (hc1 : count ≤ 1099511627776)
    (hk : sn < S.length) (hlen : S.length ≤ 4096) (hu : S[sn].s.used = true) (hgen : S[sn].s.gen = hg) (hok : RecOk S[sn].s.r) (hn0 : S[sn].s.r.next = ⟨0, 0⟩) (hkind : S[sn].s.r.kind = 1)
    (hsound : Rl.leafSound S[sn].s.r.rows S[sn].s.r.low S[sn].s.r.high S[sn].s.r.unb = true) (hrows : S[sn].s.r.rows = []) (hch : 1 ≤ lim.chain) (hlr : 0 ≤ lim.rows) (hkey : key.size ≤ maxLen) (hin : Rl.inSpan S[sn].s.r.low S[sn].s.r.high S[sn].s.r.unb key = true) :
    Calls Tryz.prog 80 #[.pointer (some ⟨b.m, 0, none⟩), .pointer (some ⟨bq, 0, none⟩), .pointer (some ⟨bx, 0, none⟩)] w fun e w' => e = .returned (.bool false) ∧ ∃ br bi bq bx bh bo bxa,
      Insts w' bt pn (sn + 1) hg 3 (recN { kind := 2, key := key, value := val } (sn + 1) hg) none 0 0 none 0 0 br (.slice none 0 0) n bg 2 key val true rs re (actFn bxa bo) bi bq bx bh ∧
      Blk w' bxa 25 #[.pointer (some ⟨bt, 0, none⟩)] ∧ Blk w' bo 29 #[.string ⟨#[]⟩, .nilIface] ∧ w.heap.size ≤ bi ∧ MemAt w' b lim (count + 1) S T now k D ∧ Fr (bt :: bl :: b.F) w w' := by
  have hql := hW.q.lt
  have hcQ := fun i => hW.q.cell i
  have nq : bq ∉ bl :: b.F := by
    intro h
    rcases List.mem_cons.1 h with h | h
    · exact Blk.ne_ hW.q hW.l (by decide) h
    · exact hM.nF hW.q (by decide) (by decide) (by decide) (by decide) h
  have nx : bx ∉ bl :: b.F := by
    intro h
    rcases List.mem_cons.1 h with h | h
    · exact Blk.ne_ hW.x hW.l (by decide) h
    · exact hM.nF hW.x (by decide) (by decide) (by decide) (by decide) h
  have nt : bt ∉ bl :: b.F := by
    intro h
    rcases List.mem_cons.1 h with h | h
    · exact Blk.ne_ hW.t hW.l (by decide) h
    · exact hM.nF hW.t (by decide) (by decide) (by decide) (by decide) h
  have HWk := Lib.hid hW
  have HM := Lib.hid hM
  have Hn0 := Lib.hid hn0
  clear hW hM hn0
  go_enter Tryz.func80, Tryz.ntmps80
  go_wp2_with (go_at_call 81
               refine (lstep_load bl pn (sn + 1) hg sn hg b lim count S T now k D _ HWk.out.l HM.out hk hlen hu hgen hok Hn0.out hc0 hc1).mono ?_
               rintro e w1 ⟨rfl, g1, c1, g2, c2, x, hL1, hxr, hC1, hR1, hM1, hF1⟩
               have HL1 := Lib.hid hL1
               have HC1 := Lib.hid hC1
               have HR1 := Lib.hid hR1
               have HM1 := Lib.hid hM1
               have HF1 := Lib.hid hF1
               have HX := Lib.hid hxr
               have hQ1 := Lib.hid (hF1.blk HWk.out.q nq)
               have hX1 := Lib.hid (hF1.blk HWk.out.x nx)
               have hT1 := Lib.hid (hF1.blk HWk.out.t nt)
               clear hL1 hC1 hR1 hM1 hF1 hxr hcQ
               have hcQ := fun i => hQ1.out.cell i
               have hq1 := hQ1.out.lt)
  have hP : PutsOk [x] 0 := by
    refine ⟨rfl, by decide, fun h => ?_, fun i hi => absurd hi (Nat.not_lt_zero _), fun y hy => ?_⟩
    · simp only [List.getElem_cons_zero]
      rw [HX.out]
      exact ⟨hkind, hsound, by rw [hrows]; simp⟩
    · obtain rfl : y = x := by simpa using hy
      rw [HX.out]; exact hok
  have hv : viewAt [x] = ⟨S[sn].s.r.low, S[sn].s.r.high, S[sn].s.r.unb, S[sn].s.r.right, S[sn].s.r.rows, false⟩ := by
    show (⟨x.r.low, x.r.high, x.r.unb, x.r.right, x.r.rows, false⟩ : Rl.LeafView) = _
    rw [HX.out]
  have HV := Lib.hid hv
  have HP := Lib.hid hP
  clear hv hP
  refine (lpage_any bl pn (sn + 1) hg 0 0 [x] 0 g1 c1 (some ⟨g2, 0, none⟩) 1 c2 [.int .i64 (sn + 1), .int .i64 hg] _ HL1.out HC1.out HP.out HR1.out (by intro u hu; simp at hu; rcases hu with rfl | rfl <;> rfl) (by decide)).mono ?_
  rintro e w2 ⟨A1, d1, A2, d2, rv, rfl, ⟨AV, cV, rfl, hlV, hoV⟩, hb2⟩
  have hb2s := hb2.size
  have HOV := Lib.hid hoV
  have hX2 := Lib.hid (hX1.out.below hb2 hX1.out.lt)
  have hT2 := Lib.hid (hT1.out.below hb2 hT1.out.lt)
  have HM2 := Lib.hid (HM1.out.below hb2)
  have HF2 := Lib.hid (HF1.out.then_below hb2)
  have HZ2 := Lib.hid (Blk.new_at (X := w2) (b := w2.heap.size) (t := 128) (cs := #[.int .i64 0, .int .i64 0, .int .i64 0, .slice none 0 0, .slice none 0 0, .bool false, .string ⟨#[]⟩, .string ⟨#[]⟩, .bool false, .int .i64 0, .slice none 0 0, .bool false, .string ⟨#[]⟩, .string ⟨#[]⟩, .bool false, .int .i64 0, .slice none 0 0, .bool false, .int .i64 0, .int .i64 0, .string ⟨#[]⟩]) rfl)
  clear hoV hb2 hX1 hT1 HM1 HF1 hcQ hQ1 HL1 HC1 HR1
  go_wp2_with (refine wpList_store_mid rfl 128 _ _ rfl w2.heap.size 0 (pageVal pn (sn + 1) hg (.slice A1 1 d1) (.slice A2 1 d2) true (viewAt [x]) (.slice AV (viewAt [x]).rows.length cV)) rfl rfl (HZ2.out.there 0 21 (by simp)) (by kernel_rfl) (page_one _ _ _ _ _ _ _ _ _ _ _ _ _ _) ?_
               have hZ := HZ2.out.setCs (pageVal pn (sn + 1) hg (.slice A1 1 d1) (.slice A2 1 d2) true (viewAt [x]) (.slice AV (viewAt [x]).rows.length cV)).toList _ 0
               have hb3 : Below w2.heap.size w2 ((w2.alloc (.cells #[.int .i64 0, .int .i64 0, .int .i64 0, .slice none 0 0, .slice none 0 0, .bool false, .string ⟨#[]⟩, .string ⟨#[]⟩, .bool false, .int .i64 0, .slice none 0 0, .bool false, .string ⟨#[]⟩, .string ⟨#[]⟩, .bool false, .int .i64 0, .slice none 0 0, .bool false, .int .i64 0, .int .i64 0, .string ⟨#[]⟩] 128)).setCells w2.heap.size 0 (pageVal pn (sn + 1) hg (.slice A1 1 d1) (.slice A2 1 d2) true (viewAt [x]) (.slice AV (viewAt [x]).rows.length cV)).toList) := below_setCs (g := w2.heap.size) (B := w2.heap.size) _ _ _ (by repeat' (first | (with_reducible exact Below.refl _ _) | (with_reducible assumption) | (with_reducible refine Below.alloc ?_ ?_ _) | (with_reducible refine below_drewN ?_ _) | (with_reducible refine Below.drew ?_) | (with_reducible refine Below.setCell ?_ ?_ _) | go_size)) (Nat.le_refl _)
               obtain ⟨V, HVV⟩ : ∃ V, Hid ((w2.alloc (.cells #[.int .i64 0, .int .i64 0, .int .i64 0, .slice none 0 0, .slice none 0 0, .bool false, .string ⟨#[]⟩, .string ⟨#[]⟩, .bool false, .int .i64 0, .slice none 0 0, .bool false, .string ⟨#[]⟩, .string ⟨#[]⟩, .bool false, .int .i64 0, .slice none 0 0, .bool false, .int .i64 0, .int .i64 0, .string ⟨#[]⟩] 128)).setCells w2.heap.size 0 (pageVal pn (sn + 1) hg (.slice A1 1 d1) (.slice A2 1 d2) true (viewAt [x]) (.slice AV (viewAt [x]).rows.length cV)).toList = V) := ⟨_, Lib.hid rfl⟩
               rw [HVV.out] at hZ hb3 ⊢
               simp only [pageVal, setN, List.set_cons_zero, List.set_cons_succ] at hZ
               have hZ := Lib.hid (show Blk V w2.heap.size 128 (pageVal pn (sn + 1) hg (.slice A1 1 d1) (.slice A2 1 d2) true (viewAt [x]) (.slice AV (viewAt [x]).rows.length cV)) from hZ)
               clear HVV HZ2
               have hX3 := Lib.hid (hX2.out.below hb3 hX2.out.lt)
               have hT3 := Lib.hid (hT2.out.below hb3 hT2.out.lt)
               have HM3 := Lib.hid (HM2.out.below hb3)
               have HF3 := Lib.hid (HF2.out.then_below hb3)
               have HO3 := Lib.hid (ownsRow_keep HOV.out hb3)
               clear hb3 hX2 hT2 HM2 HF2 HOV
               have hcX := fun i => hX3.out.cell i
               have hx3 := hX3.out.lt
               have hz3 := hZ.out.lt
               have ht3 := hT3.out.lt)
  refine wp_region_head 4 (SB V) (by kernel_rfl) (by kernel_rfl) ?_
  (refine HW.q (i := 2) rfl (by kernel_rfl) (fun _ _ _ _ h => h) ?_ ?_; (focus ((try dsimp only); exact (by repeat' (first | (with_reducible exact Below.refl _ _) | (with_reducible assumption) | (with_reducible refine Below.alloc ?_ ?_ _) | (with_reducible refine below_drewN ?_ _) | (with_reducible refine Below.drew ?_) | (with_reducible refine Below.setCell ?_ ?_ _) | go_size)))); intro K hK; go_simp; first | (refine hK _ ?_; clear hK K) | (refine ⟨_, fun _ _ => rfl, hK _ ?_⟩; clear hK K))
  (refine HW.q (i := 0) rfl (by kernel_rfl) (fun _ _ _ _ h => h) ?_ ?_; (focus ((try dsimp only); exact (by repeat' (first | (with_reducible exact Below.refl _ _) | (with_reducible assumption) | (with_reducible refine Below.alloc ?_ ?_ _) | (with_reducible refine below_drewN ?_ _) | (with_reducible refine Below.drew ?_) | (with_reducible refine Below.setCell ?_ ?_ _) | go_size)))); intro K hK; go_simp; apply Exists.intro; refine ⟨fun w2 hw2 => ?_, hK _ ?_⟩; (focus (obtain ⟨hc2, hf2⟩ := bcell hw2; go_simp; first | done | rfl)); clear hK K)
  refine HW.q (i := 1) rfl (by kernel_rfl) (fun _ _ _ _ h => h) ?_ ?_
  · exact (by repeat' (first | (with_reducible exact Below.refl _ _) | (with_reducible assumption) | (with_reducible refine Below.alloc ?_ ?_ _) | (with_reducible refine below_drewN ?_ _) | (with_reducible refine Below.drew ?_) | (with_reducible refine Below.setCell ?_ ?_ _) | go_size))
  intro K hK
  refine held_load_arr (by kernel_rfl) 128 _ rfl w2.heap.size 0 rfl (pageVal pn (sn + 1) hg (.slice A1 1 d1) (.slice A2 1 d2) true (viewAt [x]) (.slice AV (viewAt [x]).rows.length cV)) _ (fun w2 hw2 => (hZ.out.below (show Below V.heap.size V w2 from hw2) hz3).rangeArr) Tryz.underlying128 rfl (by kernel_rfl) ?_
  refine hK _ ?_
  clear hK K
  (refine HW.solo (i := 3) rfl (by kernel_rfl) (by kernel_rfl) ?_; intro K hK; go_simp)
  go_at_call 59
  refine (mlimits_any b lim (count + 1) _ HM3.out.m.drew).mono ?_
  rintro e w4 ⟨rfl, hb4⟩
  have hb4 : Below V.heap.size V w4 := below_to (by repeat' (first | (with_reducible exact Below.refl _ _) | (with_reducible assumption) | (with_reducible refine Below.alloc ?_ ?_ _) | (with_reducible refine below_drewN ?_ _) | (with_reducible refine Below.drew ?_) | (with_reducible refine Below.setCell ?_ ?_ _) | go_size)) hb4
  refine hK _ _ hb4 ?_
  clear hK K hcX
  refine HW.done (by kernel_rfl) ?_
  simp only [List.drop_succ_cons, List.drop_zero]
  have hT4 := Lib.hid (hT3.out.below hb4 ht3)
  have HM4 := Lib.hid (HM3.out.below hb4)
  have HF4 := Lib.hid (HF3.out.then_below hb4)
  have HO4 := Lib.hid (ownsRow_keep HO3.out hb4)
  have hr0 : (viewAt [x]).rows = [] := by rw [HV.out]; exact hrows
  have hlen0 : (viewAt [x]).rows.length = 0 := by rw [hr0]; rfl
  have hgone : (viewAt [x]).gone = false := by rw [HV.out]
  have hhas : (viewAt [x]).has key = true := by rw [HV.out]; exact hin
  have hlow : (viewAt [x]).low.size ≤ maxLen := by rw [HV.out]; exact hok.low
  have hhigh : (viewAt [x]).high.size ≤ maxLen := by rw [HV.out]; exact hok.high
  have hOV : OwnV w4 0 (.slice AV 0 cV) (viewAt [x]).rows := ⟨AV, cV, by rw [hlen0], hlV, ownsRow_base HO4.out (Nat.zero_le _)⟩
  have H0 := Lib.hid hr0
  have HG := Lib.hid hgone
  clear hr0 hgone
  rw [hlen0]
  clear hlen0
  go_wp2_with (go_at_call 84
               refine (tdecide_ins bt n bg key val rs re _ pn (sn + 1) hg A1 1 d1 A2 1 d2 (viewAt [x]) AV cV lim _ hT4.out (by omega) hlr hlow hhigh hkey hhas HG.out H0.out hOV).mono ?_
               rintro e w5 ⟨rfl, br, bi, bq2, bx2, bh, bo, bxa, hIn, hXa, hO, hge, hF5⟩)
  go_ret
  have nF := (HM4.out.off hT4.out (by decide) (by decide) (by decide) (by decide) (by decide) (by decide) (by decide) (by decide))
  exact ⟨rfl, br, bi, bq2, bx2, bh, bo, bxa, hIn, hXa, hO, Nat.le_trans HF4.out.size hge, HM4.out.fr hF5 nF, (HF4.out.mono (by intro g hg; simp at hg; simp [hg])).trans (hF5.mono (by intro g hg; simp at hg; simp [hg]))⟩
end Go.Proofs.YthidclcliflhkaaGreat
end
section
open Go Go.RowKit
namespace Go.Proofs.YthidclcliflhkaaGreat
open Rl (keyOk)

set_option maxRecDepth 100000 in
theorem rright_call (kind : Int) (key val : ByteArray) (w : World) (hk : key.size ≤ maxLen) (hv : val.size ≤ maxLen) :
    Calls Tryz.prog 14 #[.agg #[.int .i64 kind, .string key, .string val]] w (RetB (.bool (callOk kind key val)) w) := by
  by_cases h1 : kind < 1
  · have h1' : ¬ (1 ≤ kind) := by omega
    go_enter Tryz.func14, Tryz.ntmps14
    go_wp2_with fail
    go_ret
    exact ⟨congrArg (fun b => Ending.returned (Value.bool b)) (by simp [callOk]; intros; omega), (by repeat' (first | (with_reducible exact Below.refl _ _) | (with_reducible assumption) | (with_reducible refine Below.alloc ?_ ?_ _) | (with_reducible refine below_drewN ?_ _) | (with_reducible refine Below.drew ?_) | (with_reducible refine Below.setCell ?_ ?_ _) | go_size))⟩
  by_cases h2 : 5 < kind
  · have h2' : ¬ (kind ≤ 5) := by omega
    have h1' : 1 ≤ kind := by omega
    go_enter Tryz.func14, Tryz.ntmps14
    go_wp2_with fail
    go_ret
    exact ⟨congrArg (fun b => Ending.returned (Value.bool b)) (by simp [callOk]; intros; omega), (by repeat' (first | (with_reducible exact Below.refl _ _) | (with_reducible assumption) | (with_reducible refine Below.alloc ?_ ?_ _) | (with_reducible refine below_drewN ?_ _) | (with_reducible refine Below.drew ?_) | (with_reducible refine Below.setCell ?_ ?_ _) | go_size))⟩
  have h1' : 1 ≤ kind := by omega
  have h2' : kind ≤ 5 := by omega
  cases hky : keyOk key
  · have HK := Lib.hid hky
    clear hky
    go_enter Tryz.func14, Tryz.ntmps14
    go_wp2_with (go_at_call 22
                 refine (ref_right key _ hk).mono ?_
                 rintro e w1 ⟨rfl, n1, rfl⟩
                 rw [HK.out])
    go_ret
    exact ⟨congrArg (fun b => Ending.returned (Value.bool b)) (by simp [callOk, HK.out]), (by repeat' (first | (with_reducible exact Below.refl _ _) | (with_reducible assumption) | (with_reducible refine Below.alloc ?_ ?_ _) | (with_reducible refine below_drewN ?_ _) | (with_reducible refine Below.drew ?_) | (with_reducible refine Below.setCell ?_ ?_ _) | go_size))⟩
  · have HK := Lib.hid hky
    clear hky
    by_cases h3 : kind = 1
    · subst h3
      go_enter Tryz.func14, Tryz.ntmps14
      go_wp2_with (go_at_call 22
                   refine (ref_right key _ hk).mono ?_
                   rintro e w1 ⟨rfl, n1, rfl⟩
                   rw [HK.out])
      go_ret
      exact ⟨congrArg (fun b => Ending.returned (Value.bool b)) (by simp [callOk, HK.out]), (by repeat' (first | (with_reducible exact Below.refl _ _) | (with_reducible assumption) | (with_reducible refine Below.alloc ?_ ?_ _) | (with_reducible refine below_drewN ?_ _) | (with_reducible refine Below.drew ?_) | (with_reducible refine Below.setCell ?_ ?_ _) | go_size))⟩
    by_cases h4 : kind = 5
    · subst h4
      go_enter Tryz.func14, Tryz.ntmps14
      go_wp2_with (go_at_call 22
                   refine (ref_right key _ hk).mono ?_
                   rintro e w1 ⟨rfl, n1, rfl⟩
                   rw [HK.out])
      go_ret
      exact ⟨congrArg (fun b => Ending.returned (Value.bool b)) (by simp [callOk, HK.out]), (by repeat' (first | (with_reducible exact Below.refl _ _) | (with_reducible assumption) | (with_reducible refine Below.alloc ?_ ?_ _) | (with_reducible refine below_drewN ?_ _) | (with_reducible refine Below.drew ?_) | (with_reducible refine Below.setCell ?_ ?_ _) | go_size))⟩
    have h3' : (kind == 1) = false := by simpa using h3
    have h4' : (kind == 5) = false := by simpa using h4
    by_cases h5 : val.size ≤ 16
    · have d5 : decide ((val.size : Int) ≤ 16) = true := by simp; omega
      go_enter Tryz.func14, Tryz.ntmps14
      go_wp2_with (go_at_call 22
                   refine (ref_right key _ hk).mono ?_
                   rintro e w1 ⟨rfl, n1, rfl⟩
                   rw [HK.out])
      go_ret
      exact ⟨congrArg (fun b => Ending.returned (Value.bool b)) (by first | (simp [callOk, HK.out, h5, h1', h2']; done) | (simp [callOk, HK.out, h5, h1', h2']; omega)), (by repeat' (first | (with_reducible exact Below.refl _ _) | (with_reducible assumption) | (with_reducible refine Below.alloc ?_ ?_ _) | (with_reducible refine below_drewN ?_ _) | (with_reducible refine Below.drew ?_) | (with_reducible refine Below.setCell ?_ ?_ _) | go_size))⟩
    · have d5 : decide ((val.size : Int) ≤ 16) = false := by simp; omega
      go_enter Tryz.func14, Tryz.ntmps14
      go_wp2_with (go_at_call 22
                   refine (ref_right key _ hk).mono ?_
                   rintro e w1 ⟨rfl, n1, rfl⟩
                   rw [HK.out])
      go_ret
      exact ⟨congrArg (fun b => Ending.returned (Value.bool b)) (by first | (simp [callOk, HK.out, h3, h4, h5]; done) | (simp [callOk, HK.out, h3, h4, h5]; omega)), (by repeat' (first | (with_reducible exact Below.refl _ _) | (with_reducible assumption) | (with_reducible refine Below.alloc ?_ ?_ _) | (with_reducible refine below_drewN ?_ _) | (with_reducible refine Below.drew ?_) | (with_reducible refine Below.setCell ?_ ?_ _) | go_size))⟩
end Go.Proofs.YthidclcliflhkaaGreat
end
section
open Go Go.RowKit Go.Extern.Stop Go.Stop Go.Extern
namespace Go.Proofs.YthidclcliflhkaaGreat

theorem isTypeOf (v : Value) (w : World) : (Extern.ReflectliteType.typeOf #[.iface 34 v]).run Tryz.prog w = .ok (.iface 149 (.agg #[.pointer (some ⟨0, 34, none⟩)])) w := by kernel_rfl
def compFn (t : TypeId) : Sem Value := do Extern.Rtype.noPackHeld "Comparable" t; pure (.bool (← typeInfo t).comparable)
theorem isComparable (w : World) : ((Extern.ReflectliteType.method compFn) #[.agg #[.pointer (some ⟨0, 34, none⟩)]]).run Tryz.prog w = .ok (.bool true) w := by kernel_rfl
theorem isMethodComparable (v : Value) (w : World) : (Go.method 407 149 v "Comparable").run Tryz.prog w = .ok (210, v) w := by kernel_rfl
theorem is_same (c : Int) (w : World) (heq : ∀ w, (binOp .eql 27 (.iface 34 (.int .i64 c)) (.iface 34 (.int .i64 c))).run Tryz.prog w = .ok (.bool true) w) :
    Calls Tryz.prog 18 #[.iface 34 (.int .i64 c), .iface 34 (.int .i64 c)] w fun e w' => e = .returned (.bool true) ∧ w' = w := by
  have h8 := @run_callFunc_extern Tryz.prog 37 _ Extern.ReflectliteType.typeOf Tryz.func37 (by kernel_rfl) (by kernel_rfl) (by kernel_rfl) (by kernel_rfl)
  have h32 := @run_callFunc_extern Tryz.prog 210 _ (Extern.ReflectliteType.method compFn) Tryz.func210 (by kernel_rfl) (by kernel_rfl) (by kernel_rfl) (by kernel_rfl)
  have tT := isTypeOf
  have cT := isComparable
  have mR := isMethodComparable
  go_enter Tryz.func18, Tryz.ntmps18
  go_wp2
  refine wp_loop_rounds 1 ?_
  rw [rounds_succ]
  go_wp2
  go_ret
  exact ⟨rfl, rfl⟩
theorem eql1 (w : World) : (binOp .eql 27 (.iface 34 (.int .i64 1)) (.iface 34 (.int .i64 1))).run Tryz.prog w = .ok (.bool true) w := by kernel_rfl
theorem eql11 (w : World) : (binOp .eql 27 (.iface 34 (.int .i64 11)) (.iface 34 (.int .i64 11))).run Tryz.prog w = .ok (.bool true) w := by kernel_rfl
theorem eql13 (w : World) : (binOp .eql 27 (.iface 34 (.int .i64 13)) (.iface 34 (.int .i64 13))).run Tryz.prog w = .ok (.bool true) w := by kernel_rfl
theorem fis_same (c : Int) (w : World) (heq : ∀ w, (binOp .eql 27 (.iface 34 (.int .i64 c)) (.iface 34 (.int .i64 c))).run Tryz.prog w = .ok (.bool true) w) : Calls Tryz.prog 9 #[.iface 34 (.int .i64 c), .int .i64 c] w fun e w' => e = .returned (.bool true) ∧ w' = w := by
  go_enter Tryz.func9, Tryz.ntmps9
  go_wp2_with (go_at_call 18
               refine (is_same c _ heq).mono ?_
               rintro e w1 ⟨rfl, rfl⟩)
  go_ret
  exact ⟨rfl, rfl⟩
end Go.Proofs.YthidclcliflhkaaGreat
end
