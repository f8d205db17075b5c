/- What page.Of computes: a leaf of puts above a base. -/
import Derived.Test.YthidclcliflhkaaGreatZ04
import Derived.Test.YthidclcliflhkaaGreatZ06
import Derived.Test.YthidclcliflhkaaGreatZ08
section
open Go Go.RowKit
namespace Go.Proofs.YthidclcliflhkaaGreat

theorem ref_info : (Tryz.prog.info? 55).map (fun i => (i.zero, i.size, i.bytes)) = some (some (.agg #[.int .i64 0, .int .i64 0]), 2, 16) := by kernel_rfl
theorem rec_info : (Tryz.prog.info? 83).map (fun i => (i.zero, i.size, i.bytes)) = some (some (.agg #[.int .i64 0, .string ⟨#[]⟩, .string ⟨#[]⟩, .bool false, .int .i64 0, .slice none 0 0, .slice none 0 0, .string ⟨#[]⟩, .string ⟨#[]⟩, .int .i64 0, .int .i64 0, .int .i64 0, .string ⟨#[]⟩, .int .i64 0, .int .i64 0]), 15, 192) := by kernel_rfl
theorem bcellB {B : Nat} {W w1 : World} (hb : Below B W w1) : (∀ b o, b < B → w1.cell? ⟨b, o, none⟩ = W.cell? ⟨b, o, none⟩) ∧ (∀ b o, b < B → w1.frozen? ⟨b, o, none⟩ = W.frozen? ⟨b, o, none⟩) :=
  ⟨fun b o h => hb.cell (p := ⟨b, o, none⟩) h, fun b o h => hb.frozen (p := ⟨b, o, none⟩) h⟩
theorem Fr.thenB {F : List Nat} {w w1 w2 : World} (h : Fr F w w1) (k : Below w.heap.size w1 w2) : Fr F w w2 :=
  ⟨k.os.trans h.os, k.tape.trans h.tape, k.output.trans h.output, Nat.le_trans h.size k.size, fun i hi hf => (k.block i hi).trans (h.block i hi hf)⟩
theorem rec_all (r : Rl.Rec) (A B : Option Addr) (m n c d : Nat) : (recVal r (.slice A m c) (.slice B n d)).all (·.oneCell') = true := by
  simp [recVal]; and_intros <;> rfl
set_option maxRecDepth 100000 in
set_option maxHeartbeats 3000000 in
theorem of_any (n hs hg : Int) (C : List RecV) (m g c : Nat) (R : Option Addr) (rn rc : Nat) (fs : List Value) (w : World) (hC : ChainAt w g c C) (hP : PutsOk C m) (hR : Reads w w.heap.size 2 R rn fs) (hf1 : ∀ u ∈ fs, u.oneCell' = true) (hrn : rn ≤ 4097) :
    Calls Tryz.prog 48 #[.int .i64 n, .agg #[.int .i64 hs, .int .i64 hg], .slice (some ⟨g, 0, none⟩) C.length c, .slice R rn rc] w fun e w' => ∃ A1 c1 A2 c2 rv, e = .returned (.tuple #[.agg (pageVal n hs hg (.slice A1 C.length c1) (.slice A2 rn c2) true (viewAt C) rv), .nilIface]) ∧
      OwnV w' w.heap.size rv (viewAt C).rows ∧ Below w.heap.size w w' := by
  obtain ⟨i0, hi0, hz0, hz1, hz2⟩ := info_parts ref_info
  obtain ⟨i1, hi1, hy0, hy1, hy2⟩ := info_parts rec_info
  have Hlen := Lib.hid hP.len
  have hle : C.length ≤ 4097 := by have := hP.len; have := hP.short; omega
  have hglt := hC.lt
  have HC := Lib.hid hC
  clear hC
  go_enter Tryz.func48, Tryz.ntmps48
  go_wp2_with fail
  refine wp_name ?_
  intro V HV
  have hbV : Below w.heap.size w V := by rw [← HV.out]; exact (by repeat' (first | (with_reducible exact Below.refl _ _) | (with_reducible assumption) | (with_reducible refine Below.alloc ?_ ?_ _) | (with_reducible refine below_drewN ?_ _) | (with_reducible refine Below.drew ?_) | (with_reducible refine Below.setCell ?_ ?_ _) | go_size))
  have hHV := Lib.hid (show Blk V w.heap.size 55 #[.int .i64 hs, .int .i64 hg] by rw [← HV.out]; exact Blk.alloc (Blk.new_at rfl) _)
  have hPV := Lib.hid (show Blk V (w.heap.size + 1) 128 (pageVal 0 0 0 (.slice none 0 0) (.slice none 0 0) false {} (.slice none 0 0)) by rw [← HV.out]; exact Blk.new_at (by simp))
  have hsV : w.heap.size + 1 + 1 = V.heap.size := by rw [← HV.out]; simp
  have hCV := Lib.hid (HC.out.keep hbV)
  have hRV := Lib.hid (hR.below hbV)
  clear HV hR
  have hcH := fun i => hHV.out.cell i
  have hhV : w.heap.size < V.heap.size := by omega
  refine via (T := ?T) (fun key => ?main) ?rest
  case main =>
    refine wp_region_head 7 (fun w' => Below V.heap.size V w') (by kernel_rfl) (by kernel_rfl) ?_
    (refine HW.q (i := 0) rfl (by kernel_rfl) (fun _ _ _ _ h => h) ?_ ?_; (focus ((try dsimp only); exact (by repeat' (first | (with_reducible exact Below.refl _ _) | (with_reducible assumption) | (with_reducible refine Below.alloc ?_ ?_ _) | (with_reducible refine below_drewN ?_ _) | (with_reducible refine Below.drew ?_) | (with_reducible refine Below.setCell ?_ ?_ _) | go_size)))); intro K hK; go_simp; first | (refine hK _ ?_; clear hK K) | (refine ⟨_, fun _ _ => rfl, hK _ ?_⟩; clear hK K))
    (refine HW.q (i := 1) rfl (by kernel_rfl) (fun _ _ _ _ h => h) ?_ ?_; (focus ((try dsimp only); exact (by repeat' (first | (with_reducible exact Below.refl _ _) | (with_reducible assumption) | (with_reducible refine Below.alloc ?_ ?_ _) | (with_reducible refine below_drewN ?_ _) | (with_reducible refine Below.drew ?_) | (with_reducible refine Below.setCell ?_ ?_ _) | go_size)))); intro K hK; go_simp; apply Exists.intro; refine ⟨fun w2 hw2 => ?_, hK _ ?_⟩; (focus (obtain ⟨hc2, hf2⟩ := bcell hw2; go_simp; first | done | rfl)); clear hK K)
    (refine HW.q (i := 3) rfl (by kernel_rfl) (fun _ _ _ _ h => h) ?_ ?_; (focus ((try dsimp only); exact (by repeat' (first | (with_reducible exact Below.refl _ _) | (with_reducible assumption) | (with_reducible refine Below.alloc ?_ ?_ _) | (with_reducible refine below_drewN ?_ _) | (with_reducible refine Below.drew ?_) | (with_reducible refine Below.setCell ?_ ?_ _) | go_size)))); intro K hK; go_simp; first | (refine hK _ ?_; clear hK K) | (refine ⟨_, fun _ _ => rfl, hK _ ?_⟩; clear hK K))
    refine HW.two (i := 2) (j := 6) rfl rfl (by kernel_rfl) (by kernel_rfl) (by kernel_rfl) ?_ ?_
    · intro K hK
      go_simp
      refine hK _ _ (by repeat' (first | (with_reducible exact Below.refl _ _) | (with_reducible assumption) | (with_reducible refine Below.alloc ?_ ?_ _) | (with_reducible refine below_drewN ?_ _) | (with_reducible refine Below.drew ?_) | (with_reducible refine Below.setCell ?_ ?_ _) | go_size)) ?_
      clear hK K
      refine HW.two (i := 4) (j := 6) rfl rfl (by kernel_rfl) (by kernel_rfl) (by kernel_rfl) ?_ ?_
      · intro K hK
        refine wp_append_any _ (.tmp 17) (.tmp 18) _ rfl V.heap.size 55 i0 _ 2 16 Tryz.underlying92 hi0 hz0 hz1 hz2 rfl ?_ (.slice (some ⟨V.heap.size, 0, none⟩) 0 0) 0 [] rfl (own_lit_at #[] 0 (by first | (simp; done) | (simp; omega) | omega) (by first | (simp; done) | (simp; omega) | omega) (by simp [maxLen]) rfl) w.heap.size R rn rc fs rfl (hRV.out.below ((show Below V.heap.size V _ from (by repeat' (first | (with_reducible exact Below.refl _ _) | (with_reducible assumption) | (with_reducible refine Below.alloc ?_ ?_ _) | (with_reducible refine below_drewN ?_ _) | (with_reducible refine Below.drew ?_) | (with_reducible refine Below.setCell ?_ ?_ _) | go_size))).mono (by omega))) hf1 ?_ ?_ ?_ ?_
        · decide
        · simp only [maxLen]; omega
        · omega
        · first | (simp; done) | (simp; omega)
        intro v1 w1 ho1 hg1 hx1
        obtain ⟨A2, c2, rfl, hlx⟩ := own_form ho1
        have hb1 : Below V.heap.size V w1 := Below.grown (a := V) (by repeat' (first | (with_reducible exact Below.refl _ _) | (with_reducible assumption) | (with_reducible refine Below.alloc ?_ ?_ _) | (with_reducible refine below_drewN ?_ _) | (with_reducible refine Below.drew ?_) | (with_reducible refine Below.setCell ?_ ?_ _) | go_size)) hg1 (by first | (simp; done) | (simp; omega) | omega) (by simp [Value.ownBlock])
        have hsw := hb1.size
        refine hK _ _ hb1 ?_
        clear hK K ho1 hx1 hlx
        simp only [Nat.zero_add]
        (refine HW.q (i := 5) rfl (by kernel_rfl) (fun _ _ _ _ h => h) ?_ ?_; (focus ((try dsimp only); exact (by repeat' (first | (with_reducible exact Below.refl _ _) | (with_reducible assumption) | (with_reducible refine Below.alloc ?_ ?_ _) | (with_reducible refine below_drewN ?_ _) | (with_reducible refine Below.drew ?_) | (with_reducible refine Below.setCell ?_ ?_ _) | go_size)))); intro K hK; go_simp; first | (refine hK _ ?_; clear hK K) | (refine ⟨_, fun _ _ => rfl, hK _ ?_⟩; clear hK K))
        (refine HW.solo (i := 6) rfl (by kernel_rfl) (by kernel_rfl) ?_; intro K hK; go_simp)
        refine hK _ _ (by repeat' (first | (with_reducible exact Below.refl _ _) | (with_reducible assumption) | (with_reducible refine Below.alloc ?_ ?_ _) | (with_reducible refine below_drewN ?_ _) | (with_reducible refine Below.drew ?_) | (with_reducible refine Below.setCell ?_ ?_ _) | go_size)) ?_
        clear hK K
        obtain ⟨W, HW⟩ : ∃ W, Hid (w1.alloc (.cells #[.int .i64 0, .int .i64 0, .int .i64 0, .slice none 0 0, .slice none 0 0, .bool false, .string ⟨#[]⟩, .string ⟨#[]⟩, .bool false, .int .i64 0, .slice none 0 0, .bool false, .string ⟨#[]⟩, .string ⟨#[]⟩, .bool false, .int .i64 0, .slice none 0 0, .bool false, .int .i64 0, .int .i64 0, .string ⟨#[]⟩] 128) = W) := ⟨_, Lib.hid rfl⟩
        obtain ⟨b10, Hb⟩ : ∃ b10, Hid (w1.heap.size = b10) := ⟨_, Lib.hid rfl⟩
        have hb10 : V.heap.size ≤ b10 := by rw [← Hb.out]; exact hsw
        have hbW : Below V.heap.size V W := by rw [← HW.out]; exact (by repeat' (first | (with_reducible exact Below.refl _ _) | (with_reducible assumption) | (with_reducible refine Below.alloc ?_ ?_ _) | (with_reducible refine below_drewN ?_ _) | (with_reducible refine Below.drew ?_) | (with_reducible refine Below.setCell ?_ ?_ _) | go_size))
        have hPW : Blk W b10 128 #[.int .i64 0, .int .i64 0, .int .i64 0, .slice none 0 0, .slice none 0 0, .bool false, .string ⟨#[]⟩, .string ⟨#[]⟩, .bool false, .int .i64 0, .slice none 0 0, .bool false, .string ⟨#[]⟩, .string ⟨#[]⟩, .bool false, .int .i64 0, .slice none 0 0, .bool false, .int .i64 0, .int .i64 0, .string ⟨#[]⟩] := by rw [← HW.out, ← Hb.out]; exact Blk.new_at rfl
        rw [HW.out, Hb.out]
        clear HW Hb hg1 hb1 hsw
        refine HW.done (by kernel_rfl) ?_
        simp only [List.drop_succ_cons, List.drop_zero]
        obtain ⟨b17, H17⟩ : ∃ b17, Hid (V.heap.size = b17) := ⟨_, Lib.hid rfl⟩
        rw [H17.out]
        clear H17
        have HZ := Lib.hid (And.intro hb10 (And.intro hbW hPW))
        clear hb10 hbW hPW
        revert HZ
        revert W
        revert b10
        revert c2
        revert A2
        revert b17
        exact key.out

      · intro K hK
        go_simp
        refine hK _ _ (by repeat' (first | (with_reducible exact Below.refl _ _) | (with_reducible assumption) | (with_reducible refine Below.alloc ?_ ?_ _) | (with_reducible refine below_drewN ?_ _) | (with_reducible refine Below.drew ?_) | (with_reducible refine Below.setCell ?_ ?_ _) | go_size)) ?_
        clear hK K
        refine HW.solo (i := 4) rfl (by kernel_rfl) (by kernel_rfl) ?_
        intro K hK
        have hO := ownsRow_keep (own_lit_at (X := V.drew) (b := V.heap.size) (base := V.heap.size) (e := 55) (size := 2) #[] 0 rfl (Nat.le_refl _) (by simp [maxLen]) rfl) ((Below.refl _ _).alloc (Nat.le_refl _) (.cells #[.int .i64 0, .int .i64 0, .int .i64 0, .slice none 0 0, .slice none 0 0, .bool false, .string ⟨#[]⟩, .string ⟨#[]⟩, .bool false, .int .i64 0, .slice none 0 0, .bool false, .string ⟨#[]⟩, .string ⟨#[]⟩, .bool false, .int .i64 0, .slice none 0 0, .bool false, .int .i64 0, .int .i64 0, .string ⟨#[]⟩] 128))
        refine wp_append_any _ (.tmp 17) (.tmp 18) _ rfl V.heap.size 55 i0 _ 2 16 Tryz.underlying92 hi0 hz0 hz1 hz2 rfl ?_ (.slice (some ⟨V.heap.size, 0, none⟩) 0 0) 0 [] rfl hO w.heap.size R rn rc fs rfl (hRV.out.below ((show Below V.heap.size V _ from (by repeat' (first | (with_reducible exact Below.refl _ _) | (with_reducible assumption) | (with_reducible refine Below.alloc ?_ ?_ _) | (with_reducible refine below_drewN ?_ _) | (with_reducible refine Below.drew ?_) | (with_reducible refine Below.setCell ?_ ?_ _) | go_size))).mono (by omega))) hf1 ?_ ?_ ?_ ?_
        · decide
        · simp only [maxLen]; omega
        · omega
        · first | (simp; done) | (simp; omega)
        intro v1 w1 ho1 hg1 hx1
        obtain ⟨A2, c2, rfl, hlx⟩ := own_form ho1
        have hb1 : Below V.heap.size V w1 := Below.grown (a := V) (by repeat' (first | (with_reducible exact Below.refl _ _) | (with_reducible assumption) | (with_reducible refine Below.alloc ?_ ?_ _) | (with_reducible refine below_drewN ?_ _) | (with_reducible refine Below.drew ?_) | (with_reducible refine Below.setCell ?_ ?_ _) | go_size)) hg1 (by first | (simp; done) | (simp; omega) | omega) (by simp [Value.ownBlock])
        have hsw := hb1.size
        refine hK _ _ hb1 ?_
        clear hK K ho1 hx1 hlx
        simp only [Nat.zero_add]
        (refine HW.q (i := 5) rfl (by kernel_rfl) (fun _ _ _ _ h => h) ?_ ?_; (focus ((try dsimp only); exact (by repeat' (first | (with_reducible exact Below.refl _ _) | (with_reducible assumption) | (with_reducible refine Below.alloc ?_ ?_ _) | (with_reducible refine below_drewN ?_ _) | (with_reducible refine Below.drew ?_) | (with_reducible refine Below.setCell ?_ ?_ _) | go_size)))); intro K hK; go_simp; first | (refine hK _ ?_; clear hK K) | (refine ⟨_, fun _ _ => rfl, hK _ ?_⟩; clear hK K))
        have hP0 : Blk ((V.drew.alloc (.cells #[] 55)).alloc (.cells #[.int .i64 0, .int .i64 0, .int .i64 0, .slice none 0 0, .slice none 0 0, .bool false, .string ⟨#[]⟩, .string ⟨#[]⟩, .bool false, .int .i64 0, .slice none 0 0, .bool false, .string ⟨#[]⟩, .string ⟨#[]⟩, .bool false, .int .i64 0, .slice none 0 0, .bool false, .int .i64 0, .int .i64 0, .string ⟨#[]⟩] 128)) (V.heap.size + 1) 128 #[.int .i64 0, .int .i64 0, .int .i64 0, .slice none 0 0, .slice none 0 0, .bool false, .string ⟨#[]⟩, .string ⟨#[]⟩, .bool false, .int .i64 0, .slice none 0 0, .bool false, .string ⟨#[]⟩, .string ⟨#[]⟩, .bool false, .int .i64 0, .slice none 0 0, .bool false, .int .i64 0, .int .i64 0, .string ⟨#[]⟩] := Blk.new_at (by first | (simp; done) | (simp; omega) | omega)
        have hP1 := hP0.grown hg1 (by simp [Value.ownBlock])
        obtain ⟨W, HW⟩ : ∃ W, Hid (w1 = W) := ⟨_, Lib.hid rfl⟩
        obtain ⟨b10, Hb⟩ : ∃ b10, Hid (V.heap.size + 1 = b10) := ⟨_, Lib.hid rfl⟩
        have hb10 : V.heap.size ≤ b10 := by rw [← Hb.out]; omega
        have hbW : Below V.heap.size V W := by rw [← HW.out]; exact hb1
        have hPW : Blk W b10 128 #[.int .i64 0, .int .i64 0, .int .i64 0, .slice none 0 0, .slice none 0 0, .bool false, .string ⟨#[]⟩, .string ⟨#[]⟩, .bool false, .int .i64 0, .slice none 0 0, .bool false, .string ⟨#[]⟩, .string ⟨#[]⟩, .bool false, .int .i64 0, .slice none 0 0, .bool false, .int .i64 0, .int .i64 0, .string ⟨#[]⟩] := by rw [← HW.out, ← Hb.out]; exact hP1
        have hq10 := Hb.out
        have Hq := Lib.hid hq10
        clear hq10 Hb
        rw [HW.out]
        rw [Hq.out]
        clear HW Hq hP0 hP1 hg1 hb1 hsw
        refine HW.done (by kernel_rfl) ?_
        simp only [List.drop_succ_cons, List.drop_zero]
        obtain ⟨b17, H17⟩ : ∃ b17, Hid (V.heap.size = b17) := ⟨_, Lib.hid rfl⟩
        rw [H17.out]
        clear H17
        have HZ := Lib.hid (And.intro hb10 (And.intro hbW hPW))
        clear hb10 hbW hPW
        revert HZ
        revert W
        revert b10
        revert c2
        revert A2
        revert b17
        exact key.out

    · intro K hK
      go_simp
      refine hK _ _ (by repeat' (first | (with_reducible exact Below.refl _ _) | (with_reducible assumption) | (with_reducible refine Below.alloc ?_ ?_ _) | (with_reducible refine below_drewN ?_ _) | (with_reducible refine Below.drew ?_) | (with_reducible refine Below.setCell ?_ ?_ _) | go_size)) ?_
      clear hK K
      (refine HW.solo (i := 2) rfl (by kernel_rfl) (by kernel_rfl) ?_; intro K hK; go_simp)
      refine hK _ _ (by repeat' (first | (with_reducible exact Below.refl _ _) | (with_reducible assumption) | (with_reducible refine Below.alloc ?_ ?_ _) | (with_reducible refine below_drewN ?_ _) | (with_reducible refine Below.drew ?_) | (with_reducible refine Below.setCell ?_ ?_ _) | go_size)) ?_
      clear hK K
      refine HW.solo (i := 4) rfl (by kernel_rfl) (by kernel_rfl) ?_
      intro K hK
      refine wp_append_any _ (.tmp 17) (.tmp 18) _ rfl V.heap.size 55 i0 _ 2 16 Tryz.underlying92 hi0 hz0 hz1 hz2 rfl ?_ (.slice (some ⟨V.heap.size + 1, 0, none⟩) 0 0) 0 [] rfl (own_lit_at #[] 0 (by first | (simp; done) | (simp; omega) | omega) (by first | (simp; done) | (simp; omega) | omega) (by simp [maxLen]) rfl) w.heap.size R rn rc fs rfl (hRV.out.below ((show Below V.heap.size V _ from (by repeat' (first | (with_reducible exact Below.refl _ _) | (with_reducible assumption) | (with_reducible refine Below.alloc ?_ ?_ _) | (with_reducible refine below_drewN ?_ _) | (with_reducible refine Below.drew ?_) | (with_reducible refine Below.setCell ?_ ?_ _) | go_size))).mono (by omega))) hf1 ?_ ?_ ?_ ?_
      · decide
      · simp only [maxLen]; omega
      · omega
      · first | (simp; done) | (simp; omega)
      intro v1 w1 ho1 hg1 hx1
      obtain ⟨A2, c2, rfl, hlx⟩ := own_form ho1
      have hb1 : Below V.heap.size V w1 := Below.grown (a := V) (by repeat' (first | (with_reducible exact Below.refl _ _) | (with_reducible assumption) | (with_reducible refine Below.alloc ?_ ?_ _) | (with_reducible refine below_drewN ?_ _) | (with_reducible refine Below.drew ?_) | (with_reducible refine Below.setCell ?_ ?_ _) | go_size)) hg1 (by first | (simp; done) | (simp; omega) | omega) (by simp [Value.ownBlock])
      have hsw := hb1.size
      refine hK _ _ hb1 ?_
      clear hK K ho1 hx1 hlx
      simp only [Nat.zero_add]
      (refine HW.q (i := 5) rfl (by kernel_rfl) (fun _ _ _ _ h => h) ?_ ?_; (focus ((try dsimp only); exact (by repeat' (first | (with_reducible exact Below.refl _ _) | (with_reducible assumption) | (with_reducible refine Below.alloc ?_ ?_ _) | (with_reducible refine below_drewN ?_ _) | (with_reducible refine Below.drew ?_) | (with_reducible refine Below.setCell ?_ ?_ _) | go_size)))); intro K hK; go_simp; first | (refine hK _ ?_; clear hK K) | (refine ⟨_, fun _ _ => rfl, hK _ ?_⟩; clear hK K))
      have hP0 : Blk (V.drew.alloc (.cells #[.int .i64 0, .int .i64 0, .int .i64 0, .slice none 0 0, .slice none 0 0, .bool false, .string ⟨#[]⟩, .string ⟨#[]⟩, .bool false, .int .i64 0, .slice none 0 0, .bool false, .string ⟨#[]⟩, .string ⟨#[]⟩, .bool false, .int .i64 0, .slice none 0 0, .bool false, .int .i64 0, .int .i64 0, .string ⟨#[]⟩] 128)) V.heap.size 128 #[.int .i64 0, .int .i64 0, .int .i64 0, .slice none 0 0, .slice none 0 0, .bool false, .string ⟨#[]⟩, .string ⟨#[]⟩, .bool false, .int .i64 0, .slice none 0 0, .bool false, .string ⟨#[]⟩, .string ⟨#[]⟩, .bool false, .int .i64 0, .slice none 0 0, .bool false, .int .i64 0, .int .i64 0, .string ⟨#[]⟩] := Blk.new_at (X := V.drew) (b := V.heap.size) rfl
      have hP1 := (hP0.alloc (.cells #[] 55)).grown hg1 (by simp [Value.ownBlock])
      obtain ⟨W, HW⟩ : ∃ W, Hid (w1 = W) := ⟨_, Lib.hid rfl⟩
      obtain ⟨b10, Hb⟩ : ∃ b10, Hid (V.heap.size = b10) := ⟨_, Lib.hid rfl⟩
      have hb10 : V.heap.size ≤ b10 := by rw [← Hb.out]; omega
      have hbW : Below V.heap.size V W := by rw [← HW.out]; exact hb1
      have hPW : Blk W b10 128 #[.int .i64 0, .int .i64 0, .int .i64 0, .slice none 0 0, .slice none 0 0, .bool false, .string ⟨#[]⟩, .string ⟨#[]⟩, .bool false, .int .i64 0, .slice none 0 0, .bool false, .string ⟨#[]⟩, .string ⟨#[]⟩, .bool false, .int .i64 0, .slice none 0 0, .bool false, .int .i64 0, .int .i64 0, .string ⟨#[]⟩] := by rw [← HW.out, ← Hb.out]; exact hP1
      have hq10 := Hb.out
      have Hq := Lib.hid hq10
      clear hq10 Hb
      rw [HW.out]
      rw [Hq.out]
      clear HW Hq hP0 hP1 hg1 hb1 hsw
      refine HW.done (by kernel_rfl) ?_
      simp only [List.drop_succ_cons, List.drop_zero]
      obtain ⟨b17, H17⟩ : ∃ b17, Hid (b10 + 1 = b17) := ⟨_, Lib.hid rfl⟩
      rw [H17.out]
      clear H17
      have HZ := Lib.hid (And.intro hb10 (And.intro hbW hPW))
      clear hb10 hbW hPW
      revert HZ
      revert W
      revert b10
      revert c2
      revert A2
      revert b17
      exact key.out

  intro b17 A2 c2 b10 W HZ
  obtain ⟨hb10, hbW, hPW⟩ := HZ.out
  refine wpList_store_mid rfl 128 _ _ rfl b10 0 (pageVal n hs hg (.slice none 0 0) (.slice A2 rn c2) false {} (.slice none 0 0)) rfl rfl (hPW.there 0 21 (by simp)) (by kernel_rfl) (page_one _ _ _ _ _ _ _ _ _ _ _ _ _ _) ?_
  have hP1 := hPW.setCs (pageVal n hs hg (.slice none 0 0) (.slice A2 rn c2) false {} (.slice none 0 0)).toList W 0
  have hb1 : Below V.heap.size V (W.setCells b10 0 (pageVal n hs hg (.slice none 0 0) (.slice A2 rn c2) false {} (.slice none 0 0)).toList) := below_setCs (g := b10) (B := V.heap.size) _ _ _ hbW hb10
  obtain ⟨V1, HV1⟩ : ∃ V1, Hid (W.setCells b10 0 (pageVal n hs hg (.slice none 0 0) (.slice A2 rn c2) false {} (.slice none 0 0)).toList = V1) := ⟨_, Lib.hid rfl⟩
  rw [HV1.out] at hP1 hb1 ⊢
  simp only [pageVal, setN, List.set_cons_zero, List.set_cons_succ] at hP1
  have hP1 := Lib.hid hP1
  have hC1 := Lib.hid (hCV.out.keep hb1)
  have hs1 := hb1.size
  have hp1 := hP1.out.lt
  clear HV1 HZ hPW hbW hcH
  have hg10 : g ≠ b10 := by have := hCV.out.lt; omega
  have HF := Lib.hid (And.intro (freeOf_one hP1.out (t' := 83) (by decide)) (And.intro (freeOf_one hP1.out (t' := 50) (by decide)) (freeOf_one hP1.out (t' := 132) (by decide))))
  go_wp2_with fail
  go_loopw [23] (fun i wr => ∃ (k : Nat) (A : Option Addr) (cc : Nat) (xs : List Value), k ≤ C.length ∧ i = .int .i64 k ∧ Blk wr b10 128 (pageVal n hs hg (.slice A k cc) (.slice A2 rn c2) false {} (.slice none 0 0)) ∧
      wr.ownsRow V1.heap.size 83 15 (.slice A k cc) k xs ∧ Fr [b10] V1 wr) (fun i _ => C.length - (intOf i).toNat)
  case atStart => exact ⟨0, none, 0, [], Nat.zero_le _, rfl, hP1.out, World.ownsRow_nil _ _ _ _, Fr.refl _ _⟩
  case round =>
    obtain ⟨k, A, cc, xs, hk1, rfl, hP2, ho2, hF⟩ := hrel
    have hs2 := hF.size
    have hC2 := Lib.hid (hC1.out.fr hF HF.out.1 HF.out.2.1 HF.out.2.2)
    have hP2 := Lib.hid hP2
    have HO2 := Lib.hid ho2
    clear ho2
    have hcP := fun i => hP2.out.cell i
    have hfP := fun i => hP2.out.frozen i
    simp only [pageVal] at hcP
    have hp2 := hP2.out.lt
    have hg2 : g < wr.heap.size := hC2.out.lt
    by_cases h1 : k < C.length
    · have hcS := fun j hj => hC2.out.cell k h1 j hj
      have hc0 := hcS 0 (by omega)
      obtain ⟨A3, c3, e1, hl3, ho3⟩ := (hC2.out.recs _ (List.getElem_mem h1)).rows
      obtain ⟨A4, c4, e2, hl4, ho4⟩ := (hC2.out.recs _ (List.getElem_mem h1)).ents
      have HR := Lib.hid (show RecAt wr C[k].r (.slice A3 C[k].r.rows.length c3) (.slice A4 C[k].r.entries.length c4) from ⟨⟨A3, c3, rfl, hl3, ho3⟩, ⟨A4, c4, rfl, hl4, ho4⟩⟩)
      simp only [recCells, recVal, List.getElem?_cons_zero, Nat.add_zero, e1, e2] at hcS hc0
      clear e1 e2 ho3 ho4
      go_wp2_with fail
      refine wp_name ?_
      intro V2 HV2
      have hb2 : Below wr.heap.size wr V2 := by rw [← HV2.out]; exact (by repeat' (first | (with_reducible exact Below.refl _ _) | (with_reducible assumption) | (with_reducible refine Below.alloc ?_ ?_ _) | (with_reducible refine below_drewN ?_ _) | (with_reducible refine Below.drew ?_) | (with_reducible refine Below.setCell ?_ ?_ _) | go_size))
      have hX2 := Lib.hid (show Blk V2 wr.heap.size 83 (recVal C[k].r (.slice A3 C[k].r.rows.length c3) (.slice A4 C[k].r.entries.length c4)) by rw [← HV2.out]; exact Blk.new_at rfl)
      have hP3 := Lib.hid (hP2.out.below hb2 hp2)
      have HO3 := Lib.hid (ownsRow_keep HO2.out hb2)
      have HR3 := Lib.hid (HR.out.keep hb2)
      have hx2 := hX2.out.lt
      have hp3 := hP3.out.lt
      have hbs2 := hb2.size
      clear HV2 hcP hfP hcS hc0
      have hcX := fun i => hX2.out.cell i
      have hcP := fun i => hP3.out.cell i
      simp only [recVal] at hcX
      simp only [pageVal] at hcP
      have hp1b : b10 < V1.heap.size := hp1
      have hv12 : V1.heap.size ≤ V2.heap.size := by omega
      refine wp_region_head 7 (fun w' => Below V1.heap.size V2 w') (by kernel_rfl) (by kernel_rfl) ?_
      (refine HW.q (i := 0) rfl (by kernel_rfl) (fun _ _ _ _ h => h) ?_ ?_; (focus ((try dsimp only); exact (by repeat' (first | (with_reducible exact Below.refl _ _) | (with_reducible assumption) | (with_reducible refine Below.alloc ?_ ?_ _) | (with_reducible refine below_drewN ?_ _) | (with_reducible refine Below.drew ?_) | (with_reducible refine Below.setCell ?_ ?_ _) | go_size)))); intro K hK; go_simp; first | (refine hK _ ?_; clear hK K) | (refine ⟨_, fun _ _ => rfl, hK _ ?_⟩; clear hK K))
      (refine HW.q (i := 1) rfl (by kernel_rfl) (fun _ _ _ _ h => h) ?_ ?_; (focus ((try dsimp only); exact (by repeat' (first | (with_reducible exact Below.refl _ _) | (with_reducible assumption) | (with_reducible refine Below.alloc ?_ ?_ _) | (with_reducible refine below_drewN ?_ _) | (with_reducible refine Below.drew ?_) | (with_reducible refine Below.setCell ?_ ?_ _) | go_size)))); intro K hK; go_simp; apply Exists.intro; refine ⟨fun w2 hw2 => ?_, hK _ ?_⟩; (focus (obtain ⟨hc2, hf2⟩ := bcellB hw2; go_simp; first | done | rfl)); clear hK K)
      (refine HW.solo (i := 2) rfl (by kernel_rfl) (by kernel_rfl) ?_; intro K hK; go_simp)
      refine hK _ _ (by repeat' (first | (with_reducible exact Below.refl _ _) | (with_reducible assumption) | (with_reducible refine Below.alloc ?_ ?_ _) | (with_reducible refine below_drewN ?_ _) | (with_reducible refine Below.drew ?_) | (with_reducible refine Below.setCell ?_ ?_ _) | go_size)) ?_
      clear hK K
      (refine HW.solo (i := 3) rfl (by kernel_rfl) (by kernel_rfl) ?_; intro K hK; go_simp)
      go_at_call 46
      refine (clone_any C[k].r (.slice A3 C[k].r.rows.length c3) (.slice A4 C[k].r.entries.length c4) _ (HR3.out.keep (by repeat' (first | (with_reducible exact Below.refl _ _) | (with_reducible assumption) | (with_reducible refine Below.alloc ?_ ?_ _) | (with_reducible refine below_drewN ?_ _) | (with_reducible refine Below.drew ?_) | (with_reducible refine Below.setCell ?_ ?_ _) | go_size))) (hP.ok _ (List.getElem_mem h1))).mono ?_
      rintro e w3 ⟨rv3, ev3, rfl, ⟨A5, c5, rfl, _, _⟩, ⟨A6, c6, rfl, _, _⟩, hb3⟩
      have hb3 : Below V2.heap.size V2 w3 := ⟨hb3.os, hb3.tape, hb3.output, hb3.size, hb3.block⟩
      have hbs3 := hb3.size
      have hb3' : Below V1.heap.size V2 w3 := hb3.mono hv12
      have hv13 : V1.heap.size ≤ w3.heap.size := by omega
      refine hK _ _ hb3' ?_
      clear hK K
      simp only [recVal]
      (refine HW.solo (i := 4) rfl (by kernel_rfl) (by kernel_rfl) ?_; intro K hK; go_simp)
      refine hK _ _ (by repeat' (first | (with_reducible exact Below.refl _ _) | (with_reducible assumption) | (with_reducible refine Below.alloc ?_ ?_ _) | (with_reducible refine below_drewN ?_ _) | (with_reducible refine Below.drew ?_) | (with_reducible refine Below.setCell ?_ ?_ _) | go_size)) ?_
      clear hK K
      refine HW.solo (i := 5) rfl (by kernel_rfl) (by kernel_rfl) ?_
      intro K hK
      refine wp_append_one (.tmp 28) (.tmp 31) _ rfl V1.heap.size 83 i1 _ 15 192 Tryz.underlying91 hi1 hy0 hy1 hy2 rfl ?_ w3 w3.heap.size rfl (.slice A k cc) k xs rfl (ownsRow_keep HO3.out hb3) 1 (recVal C[k].r (.slice A5 C[k].r.rows.length c5) (.slice A6 C[k].r.entries.length c6)) rfl rfl ?_ ?_ ?_ ?_ ?_
      · decide
      · intro u hu; exact Array.all_eq_true_iff_forall_mem.1 (rec_all C[k].r A5 A6 _ _ c5 c6) u (by simpa using hu)
      · simp only [maxLen]; omega
      · omega
      · omega
      intro A7 c7 w4 hle7 ho7 hg7 hb7 hs7
      have hP4 := (hP3.out.below hb3 hp3).alloc (.cells (recVal C[k].r (.slice A5 C[k].r.rows.length c5) (.slice A6 C[k].r.entries.length c6)) 83)
      have hne4 := own_blk_ne (ownsRow_keep (ownsRow_keep HO3.out hb3) ((Below.refl _ _).alloc (Nat.le_refl _) (.cells (recVal C[k].r (.slice A5 C[k].r.rows.length c5) (.slice A6 C[k].r.entries.length c6)) 83))) hP4 (by decide)
      have hP5 := Lib.hid (hP4.grown hg7 hne4.symm)
      have hbX : Below V1.heap.size V2 w4 := hb3'.trans hb7
      have hF5 : Fr [b10] V1 w4 := hF.thenB ((hb2.mono hs2).trans hbX)
      refine hK _ _ hbX ?_
      clear hK K
      (refine HW.q (i := 6) rfl (by kernel_rfl) (fun _ _ _ _ h => h) ?_ ?_; (focus ((try dsimp only); exact (by repeat' (first | (with_reducible exact Below.refl _ _) | (with_reducible assumption) | (with_reducible refine Below.alloc ?_ ?_ _) | (with_reducible refine below_drewN ?_ _) | (with_reducible refine Below.drew ?_) | (with_reducible refine Below.setCell ?_ ?_ _) | go_size)))); intro K hK; go_simp; first | (refine hK _ ?_; clear hK K) | (refine ⟨_, fun _ _ => rfl, hK _ ?_⟩; clear hK K))
      refine HW.done (by kernel_rfl) ?_
      simp only [List.drop_succ_cons, List.drop_zero]
      have hcP5 := fun i => hP5.out.cell i
      have hfP5 := fun i => hP5.out.frozen i
      simp only [pageVal] at hcP5
      have HO7 := Lib.hid ho7
      have HF5 := Lib.hid hF5
      clear ho7 hF5 hcX hcP hP4 hne4 hg7
      have hP6 := hP5.out.set_ 3 (.slice A7 (k + 1) c7)
      simp only [pageVal, List.setIfInBounds_toArray, List.set_cons_succ, List.set_cons_zero] at hP6
      have HP6 := Lib.hid hP6
      clear hP6
      go_wp2_with fail
      exact ⟨⟨k + 1, A7, c7, _, by omega, by go_num, HP6.out, ownsRow_set HO7.out (p := ⟨b10, 3, none⟩) hp1b _, HF5.out.setCell (p := ⟨b10, 3, none⟩) (.inl (by simp)) _⟩, by first | (simp [intOf]; done) | (simp [intOf]; omega)⟩
    · obtain rfl : k = C.length := by omega
      have hml : m < C.length := by have := Hlen.out; omega
      have hq0 := hC2.out.cell m hml 0 (by omega)
      have hkind := (hP.base hml).1
      simp only [recCells, recVal, List.getElem?_cons_zero, Nat.add_zero, hkind] at hq0
      have hw1 : IntKind.i64.wrap ((C.length : Int) - 1) = (m : Int) := by rw [show (C.length : Int) - 1 = (m : Int) by have := Hlen.out; omega]; exact IntWalk.i64_in _ (by omega)
      have hPn := hP2.out.set_ 5 (.bool true)
      simp only [pageVal, List.setIfInBounds_toArray, List.set_cons_succ, List.set_cons_zero] at hPn
      have HPn := Lib.hid hPn
      clear hPn
      have hCn := Lib.hid (hC2.out.fr ((Fr.refl [b10] wr).setCell (p := ⟨b10, 5, none⟩) (.inl (by simp)) (.bool true)) (freeOf_one hP2.out (by decide)) (freeOf_one hP2.out (by decide)) (freeOf_one hP2.out (by decide)))
      have HPV := Lib.hid (hF.blk (hPV.out.below hb1 (by omega)) (by simp; omega))
      have hbT : Below w.heap.size w wr := hbV.trans ((hb1.mono (by omega)).trans (hF.below (by omega) (by simp; omega)))
      go_wp2_with fail
      refine (fold_any C m g c _ hCn.out hP).mono ?_
      rintro e w3 ⟨rv3, rfl, ⟨A5, c5, rfl, hle5, ho5⟩, hb3⟩
      have hP3 := Lib.hid (HPn.out.below hb3 HPn.out.lt)
      have HPZ := Lib.hid ((HPV.out.far (p := ⟨b10, 5, none⟩) (by show w.heap.size + 1 ≠ b10; omega) (.bool true)).below hb3 (by have := HPV.out.lt; simpa [World.setCell] using this))
      have hbT3 : Below w.heap.size w w3 := (hbT.setCell (p := ⟨b10, 5, none⟩) (by show w.heap.size ≤ b10; omega) (.bool true)).trans (hb3.mono (by first | (simp; done) | (simp; omega) | omega))
      have ho5 := ownsRow_base ho5 (show w.heap.size ≤ _ from (by first | (simp; done) | (simp; omega) | omega))
      have HO5 := Lib.hid ho5
      clear hcP hfP hb3 ho5 hq0
      go_wp2_with (first
        | (refine wpList_store_mid rfl 96 _ _ rfl b10 6 (leafVal (viewAt C) (.slice A5 (viewAt C).rows.length c5)) rfl rfl (hP3.out.there 6 6 (by simp)) (by kernel_rfl) (by simp [leafVal]; and_intros <;> rfl) ?_
           have hP4 := hP3.out.setCs (leafVal (viewAt C) (.slice A5 (viewAt C).rows.length c5)).toList w3 6
           have hF4 : Fr [b10] w3 (w3.setCells b10 6 (leafVal (viewAt C) (.slice A5 (viewAt C).rows.length c5)).toList) := Fr.setCs _ _ _ (Fr.refl _ _) (.inl (by simp))
           obtain ⟨V4, HV4⟩ : ∃ V4, Hid (w3.setCells b10 6 (leafVal (viewAt C) (.slice A5 (viewAt C).rows.length c5)).toList = V4) := ⟨_, Lib.hid rfl⟩
           rw [HV4.out] at hP4 hF4 ⊢
           simp only [leafVal, setN, List.set_cons_zero, List.set_cons_succ, Nat.reduceAdd] at hP4
           have HO6 := Lib.hid (hF4.own HO5.out (freeOf_one hP3.out (by decide)))
           have HPZ4 := Lib.hid (hF4.blk HPZ.out (by simp; omega))
           have hbT4 : Below w.heap.size w V4 := hbT3.trans (hF4.below (by have := hbT3.size; omega) (by simp; omega))
           have hrg := Lib.hid (show V4.rangeAt b10 0 (pageVal n hs hg (.slice A C.length cc) (.slice A2 rn c2) true (viewAt C) (.slice A5 (viewAt C).rows.length c5)).toList from hP4.range 0 _ (fun j v hj => by rw [Nat.zero_add, ← Array.getElem?_toList]; exact hj))
           have hP4 := Lib.hid hP4
           clear HV4)
        | (refine wpList_load_arr rfl 128 _ rfl b10 0 rfl (pageVal n hs hg (.slice A C.length cc) (.slice A2 rn c2) true (viewAt C) (.slice A5 (viewAt C).rows.length c5)) _ hrg.out Tryz.underlying128 rfl (by kernel_rfl) ?_
           refine wpList_store_mid rfl 128 _ _ rfl (w.heap.size + 1) 0 (pageVal n hs hg (.slice A C.length cc) (.slice A2 rn c2) true (viewAt C) (.slice A5 (viewAt C).rows.length c5)) rfl rfl (HPZ4.out.there 0 21 (by simp [pageVal])) (by kernel_rfl) (page_one _ _ _ _ _ _ _ _ _ _ _ _ _ _) ?_
           have hR := HPZ4.out.setCs (pageVal n hs hg (.slice A C.length cc) (.slice A2 rn c2) true (viewAt C) (.slice A5 (viewAt C).rows.length c5)).toList V4 0
           have hFR : Fr [w.heap.size + 1] V4 (V4.setCells (w.heap.size + 1) 0 (pageVal n hs hg (.slice A C.length cc) (.slice A2 rn c2) true (viewAt C) (.slice A5 (viewAt C).rows.length c5)).toList) := Fr.setCs _ _ _ (Fr.refl _ _) (.inl (by simp))
           obtain ⟨V5, HV5⟩ : ∃ V5, Hid (V4.setCells (w.heap.size + 1) 0 (pageVal n hs hg (.slice A C.length cc) (.slice A2 rn c2) true (viewAt C) (.slice A5 (viewAt C).rows.length c5)).toList = V5) := ⟨_, Lib.hid rfl⟩
           rw [HV5.out] at hR hFR ⊢
           clear HV5
           have HZ := Lib.hid (And.intro hR (And.intro hFR (hFR.own HO6.out (freeOf_one HPZ4.out (by decide)))))
           clear hR hFR hrg HPZ4 HO6 hP4))
      obtain ⟨hR, hFR, hoR⟩ := HZ.out
      simp only [pageVal, setN, List.set_cons_zero, List.set_cons_succ] at hR
      have hR : Blk V5 (w.heap.size + 1) 128 (pageVal n hs hg (.slice A C.length cc) (.slice A2 rn c2) true (viewAt C) (.slice A5 (viewAt C).rows.length c5)) := hR
      refine bodyPost_ret (v := .tuple #[.agg (pageVal n hs hg (.slice A C.length cc) (.slice A2 rn c2) true (viewAt C) (.slice A5 (viewAt C).rows.length c5)), .nilIface]) (results_cell_tmp rfl rfl hR Tryz.underlying128 rfl (by kernel_rfl) rfl) rfl ⟨A, cc, A2, c2, .slice A5 (viewAt C).rows.length c5, rfl, ⟨A5, c5, rfl, hle5, hoR⟩, hbT4.trans (hFR.below (by have := hbT4.size; omega) (by simp))⟩
end Go.Proofs.YthidclcliflhkaaGreat
end
