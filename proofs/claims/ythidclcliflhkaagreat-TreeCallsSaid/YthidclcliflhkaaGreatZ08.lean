/- What leaf.Fold computes: a chain of puts above a base. A leaf's page, as a value. -/
import Derived.Test.YthidclcliflhkaaGreatZ03
import Derived.Test.YthidclcliflhkaaGreatZ06
import Derived.Test.YthidclcliflhkaaGreatZ07
section
open Go Go.RowKit
namespace Go.Proofs.YthidclcliflhkaaGreat
open Rl (lt cmp common keyOk inSpan)

structure Kept (p : Prop) : Prop where
  out : p
theorem via {T G : Prop} (h : Kept T → G) (t : T) : G := h ⟨t⟩
set_option maxRecDepth 100000 in
set_option maxHeartbeats 3000000 in
theorem fold_any (C : List RecV) (m g c : Nat) (w : World) (hC : ChainAt w g c C) (hP : PutsOk C m) :
    Calls Tryz.prog 33 #[.slice (some ⟨g, 0, none⟩) C.length c] w fun e w' => ∃ rv, e = .returned (.tuple #[.agg (leafVal (viewAt C) rv), .nilIface]) ∧ OwnV w' w.heap.size rv (viewAt C).rows ∧ Below w.heap.size w w' := by
  have Hlen := Lib.hid hP.len
  have hle : C.length ≤ 4097 := by have := hP.len; have := hP.short; omega
  have hshort := hP.short
  have hglt := hC.lt
  have HC := Lib.hid hC
  clear hC
  go_enter Tryz.func33, Tryz.ntmps33
  go_wp2_with fail
  refine wp_name ?_
  intro V HV
  have hbV : Below w.heap.size w V := by rw [← HV.out]; exact (by repeat' (first | (with_reducible exact Below.refl _ _) | (with_reducible assumption) | (with_reducible refine Below.alloc ?_ ?_ _) | (with_reducible refine below_drewN ?_ _) | (with_reducible refine Below.drew ?_) | (with_reducible refine Below.setCell ?_ ?_ _) | go_size))
  have hZV : Hid (Blk V w.heap.size 96 #[.string ⟨#[]⟩, .string ⟨#[]⟩, .bool false, .int .i64 0, .slice none 0 0, .bool false]) := Lib.hid (by rw [← HV.out]; exact Blk.new_at rfl)
  have hsV : w.heap.size + 1 = V.heap.size := by rw [← HV.out]; simp
  have hCV := Lib.hid (HC.out.keep hbV)
  clear HV
  go_loopw [13] (fun i wr => ∃ k : Nat, k ≤ C.length ∧ i = .int .i64 k ∧ Below V.heap.size V wr) (fun i _ => C.length - (intOf i).toNat)
  case atStart => exact ⟨0, Nat.zero_le _, rfl, Below.refl _ _⟩
  case round =>
    obtain ⟨k, hk1, rfl, hb⟩ := hrel
    by_cases h1 : k < C.length
    · have hcS := fun j hj => (hCV.out.keep hb).cell k h1 j hj
      have hc0 := hcS 0 (by omega)
      have hkind : 1 ≤ C[k].r.kind ∧ C[k].r.kind ≤ 6 := by
        by_cases hkm : k < m
        · have := (hP.puts k hkm h1 (by have := Hlen.out; omega)).1; omega
        · obtain rfl : k = m := by have := Hlen.out; omega
          have := (hP.base h1).1; omega
      obtain ⟨A1, c1, e1, _, _⟩ := (hCV.out.recs _ (List.getElem_mem h1)).rows
      obtain ⟨A2, c2, e2, _, _⟩ := (hCV.out.recs _ (List.getElem_mem h1)).ents
      simp only [recCells, recVal, List.getElem?_cons_zero, Nat.add_zero, e1, e2] at hcS hc0
      clear e1 e2
      obtain ⟨hk2, hk3⟩ := hkind
      have hbs := hb.size
      go_wp2_with fail
      exact ⟨⟨k + 1, by omega, by go_num, (by repeat' (first | (with_reducible exact Below.refl _ _) | (with_reducible assumption) | (with_reducible refine Below.alloc ?_ ?_ _) | (with_reducible refine below_drewN ?_ _) | (with_reducible refine Below.drew ?_) | (with_reducible refine Below.setCell ?_ ?_ _) | go_size))⟩, by simp [intOf]; omega⟩
    · obtain rfl : k = C.length := by omega
      have hbs := hb.size
      have hCr := Lib.hid (hCV.out.keep hb)
      have hm : m < C.length := by have := Hlen.out; omega
      have hcS := fun j hj => hCr.out.cell m hm j hj
      have hc0 := hcS 0 (by omega)
      have hbase := hP.base hm
      obtain ⟨A1, c1, e1, hle1, ho1⟩ := (hCr.out.recs _ (List.getElem_mem hm)).rows
      obtain ⟨A2, c2, e2, _, _⟩ := (hCr.out.recs _ (List.getElem_mem hm)).ents
      simp only [recCells, recVal, List.getElem?_cons_zero, Nat.add_zero, hbase.1, e1, e2] at hcS hc0
      clear e1 e2
      have HO1 := Lib.hid ho1
      clear ho1
      have hw1 : IntKind.i64.wrap ((C.length : Int) - 1) = (m : Int) := by rw [show (C.length : Int) - 1 = m by have := Hlen.out; omega]; exact IntWalk.i64_in _ (by omega)
      have d1 : decide ((m : Int) < 0) = false := by simp
      have hZr := Lib.hid (hZV.out.below hb (by omega))
      go_wp2_with fail
      refine wp_name ?_
      intro V1 HV1
      have hb1 : Below V.heap.size V V1 := by rw [← HV1.out]; exact (by repeat' (first | (with_reducible exact Below.refl _ _) | (with_reducible assumption) | (with_reducible refine Below.alloc ?_ ?_ _) | (with_reducible refine below_drewN ?_ _) | (with_reducible refine Below.drew ?_) | (with_reducible refine Below.setCell ?_ ?_ _) | go_size))
      have hB1 := Lib.hid (show Blk V1 wr.heap.size 83 #[.int .i64 1, .string C[m].r.low, .string C[m].r.high, .bool C[m].r.unb, .int .i64 C[m].r.right, .slice A1 C[m].r.rows.length c1, .slice A2 C[m].r.entries.length c2, .string C[m].r.key, .string C[m].r.value, .int .i64 C[m].r.page,
        .int .i64 C[m].r.hold.page, .int .i64 C[m].r.hold.left, .string C[m].r.hold.key, .int .i64 C[m].r.next.slot, .int .i64 C[m].r.next.gen] by rw [← HV1.out]; exact Blk.new_at rfl)
      have hR1 : Hid (RowsR V1 V1.heap.size A1 C[m].r.rows) := Lib.hid (OwnV.reads (base := 0) (c := c1) (by rw [← HV1.out]; exact ownsRow_keep HO1.out (by repeat' (first | (with_reducible exact Below.refl _ _) | (with_reducible assumption) | (with_reducible refine Below.alloc ?_ ?_ _) | (with_reducible refine below_drewN ?_ _) | (with_reducible refine Below.drew ?_) | (with_reducible refine Below.setCell ?_ ?_ _) | go_size))))
      have hx1 := hB1.out.lt
      clear HV1 hcS hc0 HO1 hCr hZr hb hbs
      have hcB := fun i => hB1.out.cell i
      refine wp_region_head 13 (fun w' => Below V1.heap.size V1 w') (by kernel_rfl) (by kernel_rfl) ?_
      (refine HW.q (i := 0) rfl (by kernel_rfl) (fun _ _ _ _ h => h) ?_ ?_; (focus ((try dsimp only); exact (by repeat' (first | (with_reducible exact Below.refl _ _) | (with_reducible assumption) | (with_reducible refine Below.alloc ?_ ?_ _) | (with_reducible refine below_drewN ?_ _) | (with_reducible refine Below.drew ?_) | (with_reducible refine Below.setCell ?_ ?_ _) | go_size)))); intro K hK; go_simp; first | (refine hK _ ?_; clear hK K) | (refine ⟨_, fun _ _ => rfl, hK _ ?_⟩; clear hK K))
      (refine HW.q (i := 1) rfl (by kernel_rfl) (fun _ _ _ _ h => h) ?_ ?_; (focus ((try dsimp only); exact (by repeat' (first | (with_reducible exact Below.refl _ _) | (with_reducible assumption) | (with_reducible refine Below.alloc ?_ ?_ _) | (with_reducible refine below_drewN ?_ _) | (with_reducible refine Below.drew ?_) | (with_reducible refine Below.setCell ?_ ?_ _) | go_size)))); intro K hK; go_simp; apply Exists.intro; refine ⟨fun w2 hw2 => ?_, hK _ ?_⟩; (focus (obtain ⟨hc2, hf2⟩ := bcell hw2; go_simp; first | done | rfl)); clear hK K)
      (refine HW.q (i := 2) rfl (by kernel_rfl) (fun _ _ _ _ h => h) ?_ ?_; (focus ((try dsimp only); exact (by repeat' (first | (with_reducible exact Below.refl _ _) | (with_reducible assumption) | (with_reducible refine Below.alloc ?_ ?_ _) | (with_reducible refine below_drewN ?_ _) | (with_reducible refine Below.drew ?_) | (with_reducible refine Below.setCell ?_ ?_ _) | go_size)))); intro K hK; go_simp; first | (refine hK _ ?_; clear hK K) | (refine ⟨_, fun _ _ => rfl, hK _ ?_⟩; clear hK K))
      (refine HW.q (i := 3) rfl (by kernel_rfl) (fun _ _ _ _ h => h) ?_ ?_; (focus ((try dsimp only); exact (by repeat' (first | (with_reducible exact Below.refl _ _) | (with_reducible assumption) | (with_reducible refine Below.alloc ?_ ?_ _) | (with_reducible refine below_drewN ?_ _) | (with_reducible refine Below.drew ?_) | (with_reducible refine Below.setCell ?_ ?_ _) | go_size)))); intro K hK; go_simp; apply Exists.intro; refine ⟨fun w2 hw2 => ?_, hK _ ?_⟩; (focus (obtain ⟨hc2, hf2⟩ := bcell hw2; go_simp; first | done | rfl)); clear hK K)
      (refine HW.q (i := 4) rfl (by kernel_rfl) (fun _ _ _ _ h => h) ?_ ?_; (focus ((try dsimp only); exact (by repeat' (first | (with_reducible exact Below.refl _ _) | (with_reducible assumption) | (with_reducible refine Below.alloc ?_ ?_ _) | (with_reducible refine below_drewN ?_ _) | (with_reducible refine Below.drew ?_) | (with_reducible refine Below.setCell ?_ ?_ _) | go_size)))); intro K hK; go_simp; first | (refine hK _ ?_; clear hK K) | (refine ⟨_, fun _ _ => rfl, hK _ ?_⟩; clear hK K))
      (refine HW.q (i := 5) rfl (by kernel_rfl) (fun _ _ _ _ h => h) ?_ ?_; (focus ((try dsimp only); exact (by repeat' (first | (with_reducible exact Below.refl _ _) | (with_reducible assumption) | (with_reducible refine Below.alloc ?_ ?_ _) | (with_reducible refine below_drewN ?_ _) | (with_reducible refine Below.drew ?_) | (with_reducible refine Below.setCell ?_ ?_ _) | go_size)))); intro K hK; go_simp; apply Exists.intro; refine ⟨fun w2 hw2 => ?_, hK _ ?_⟩; (focus (obtain ⟨hc2, hf2⟩ := bcell hw2; go_simp; first | done | rfl)); clear hK K)
      (refine HW.q (i := 6) rfl (by kernel_rfl) (fun _ _ _ _ h => h) ?_ ?_; (focus ((try dsimp only); exact (by repeat' (first | (with_reducible exact Below.refl _ _) | (with_reducible assumption) | (with_reducible refine Below.alloc ?_ ?_ _) | (with_reducible refine below_drewN ?_ _) | (with_reducible refine Below.drew ?_) | (with_reducible refine Below.setCell ?_ ?_ _) | go_size)))); intro K hK; go_simp; first | (refine hK _ ?_; clear hK K) | (refine ⟨_, fun _ _ => rfl, hK _ ?_⟩; clear hK K))
      (refine HW.q (i := 7) rfl (by kernel_rfl) (fun _ _ _ _ h => h) ?_ ?_; (focus ((try dsimp only); exact (by repeat' (first | (with_reducible exact Below.refl _ _) | (with_reducible assumption) | (with_reducible refine Below.alloc ?_ ?_ _) | (with_reducible refine below_drewN ?_ _) | (with_reducible refine Below.drew ?_) | (with_reducible refine Below.setCell ?_ ?_ _) | go_size)))); intro K hK; go_simp; apply Exists.intro; refine ⟨fun w2 hw2 => ?_, hK _ ?_⟩; (focus (obtain ⟨hc2, hf2⟩ := bcell hw2; go_simp; first | done | rfl)); clear hK K)
      (refine HW.q (i := 8) rfl (by kernel_rfl) (fun _ _ _ _ h => h) ?_ ?_; (focus ((try dsimp only); exact (by repeat' (first | (with_reducible exact Below.refl _ _) | (with_reducible assumption) | (with_reducible refine Below.alloc ?_ ?_ _) | (with_reducible refine below_drewN ?_ _) | (with_reducible refine Below.drew ?_) | (with_reducible refine Below.setCell ?_ ?_ _) | go_size)))); intro K hK; go_simp; first | (refine hK _ ?_; clear hK K) | (refine ⟨_, fun _ _ => rfl, hK _ ?_⟩; clear hK K))
      (refine HW.q (i := 9) rfl (by kernel_rfl) (fun _ _ _ _ h => h) ?_ ?_; (focus ((try dsimp only); exact (by repeat' (first | (with_reducible exact Below.refl _ _) | (with_reducible assumption) | (with_reducible refine Below.alloc ?_ ?_ _) | (with_reducible refine below_drewN ?_ _) | (with_reducible refine Below.drew ?_) | (with_reducible refine Below.setCell ?_ ?_ _) | go_size)))); intro K hK; go_simp; apply Exists.intro; refine ⟨fun w2 hw2 => ?_, hK _ ?_⟩; (focus (obtain ⟨hc2, hf2⟩ := bcell hw2; go_simp; first | done | rfl)); clear hK K)
      refine via (T := ?T) (fun key => ?main) ?rest
      case main =>
        refine HW.two (i := 10) (j := 12) rfl rfl (by kernel_rfl) (by kernel_rfl) (by kernel_rfl) ?_ ?_
        case' refine_1 =>
          intro K hK
          go_simp
          go_at_call 52
          refine (copy_any C[m].r.rows A1 c1 _ (hR1.out.below (by repeat' (first | (with_reducible exact Below.refl _ _) | (with_reducible assumption) | (with_reducible refine Below.alloc ?_ ?_ _) | (with_reducible refine below_drewN ?_ _) | (with_reducible refine Below.drew ?_) | (with_reducible refine Below.setCell ?_ ?_ _) | go_size))) (by have := hbase.2.2; omega)).mono ?_
          rintro e w2 ⟨r1, rfl, A3, c3, rfl, ho3, hb2⟩
          have hb2 : Below V1.heap.size V1 w2 := ⟨hb2.os, hb2.tape, hb2.output, hb2.size, hb2.block⟩
          have hs2 := hb2.size
          refine hK _ _ hb2 ?_
          clear hK K
          (refine HW.q (i := 11) rfl (by kernel_rfl) (fun _ _ _ _ h => h) ?_ ?_; (focus ((try dsimp only); exact (by repeat' (first | (with_reducible exact Below.refl _ _) | (with_reducible assumption) | (with_reducible refine Below.alloc ?_ ?_ _) | (with_reducible refine below_drewN ?_ _) | (with_reducible refine Below.drew ?_) | (with_reducible refine Below.setCell ?_ ?_ _) | go_size)))); intro K hK; go_simp; first | (refine hK _ ?_; clear hK K) | (refine ⟨_, fun _ _ => rfl, hK _ ?_⟩; clear hK K))
          (refine HW.solo (i := 12) rfl (by kernel_rfl) (by kernel_rfl) ?_; intro K hK; go_simp)
          refine hK _ _ (by repeat' (first | (with_reducible exact Below.refl _ _) | (with_reducible assumption) | (with_reducible refine Below.alloc ?_ ?_ _) | (with_reducible refine below_drewN ?_ _) | (with_reducible refine Below.drew ?_) | (with_reducible refine Below.setCell ?_ ?_ _) | go_size)) ?_
          clear hK K
          replace ho3 := ownsRow_keep ho3 ((Below.refl _ _).alloc (Nat.le_refl _) (.cells #[.string ⟨#[]⟩, .string ⟨#[]⟩, .bool false, .int .i64 0, .slice none 0 0, .bool false] 96))
          obtain ⟨W, HW⟩ : ∃ W, Hid (w2.alloc (.cells #[.string ⟨#[]⟩, .string ⟨#[]⟩, .bool false, .int .i64 0, .slice none 0 0, .bool false] 96) = W) := ⟨_, Lib.hid rfl⟩
          obtain ⟨b8, Hb8⟩ : ∃ b8, Hid (w2.heap.size = b8) := ⟨_, Lib.hid rfl⟩
          have hbW : Below V1.heap.size V1 W := by rw [← HW.out]; exact (by repeat' (first | (with_reducible exact Below.refl _ _) | (with_reducible assumption) | (with_reducible refine Below.alloc ?_ ?_ _) | (with_reducible refine below_drewN ?_ _) | (with_reducible refine Below.drew ?_) | (with_reducible refine Below.setCell ?_ ?_ _) | go_size))
          have hYW : Hid (Blk W b8 96 #[.string ⟨#[]⟩, .string ⟨#[]⟩, .bool false, .int .i64 0, .slice none 0 0, .bool false]) := Lib.hid (by rw [← HW.out, ← Hb8.out]; exact Blk.new_at rfl)
          have hb8 : V1.heap.size ≤ b8 := by rw [← Hb8.out]; exact hs2
          have HO3 : Hid (W.ownsRow V1.heap.size 50 2 (.slice A3 C[m].r.rows.length c3) C[m].r.rows.length (rowCells C[m].r.rows)) := Lib.hid (by rw [← HW.out]; exact ho3)
          rw [HW.out, Hb8.out]
          clear HW Hb8 ho3 hb2 hs2
        case' refine_2 =>
          intro K hK
          go_simp
          refine hK _ _ (by repeat' (first | (with_reducible exact Below.refl _ _) | (with_reducible assumption) | (with_reducible refine Below.alloc ?_ ?_ _) | (with_reducible refine below_drewN ?_ _) | (with_reducible refine Below.drew ?_) | (with_reducible refine Below.setCell ?_ ?_ _) | go_size)) ?_
          clear hK K
          (refine HW.solo (i := 10) rfl (by kernel_rfl) (by kernel_rfl) ?_; intro K hK; go_simp)
          go_at_call 52
          refine (copy_any C[m].r.rows A1 c1 _ (hR1.out.below (by repeat' (first | (with_reducible exact Below.refl _ _) | (with_reducible assumption) | (with_reducible refine Below.alloc ?_ ?_ _) | (with_reducible refine below_drewN ?_ _) | (with_reducible refine Below.drew ?_) | (with_reducible refine Below.setCell ?_ ?_ _) | go_size))) (by have := hbase.2.2; omega)).mono ?_
          rintro e w2 ⟨r1, rfl, A3, c3, rfl, ho3, hb2⟩
          have h0 : Blk (V1.drew.alloc (.cells #[.string ⟨#[]⟩, .string ⟨#[]⟩, .bool false, .int .i64 0, .slice none 0 0, .bool false] 96)) V1.heap.size 96 #[.string ⟨#[]⟩, .string ⟨#[]⟩, .bool false, .int .i64 0, .slice none 0 0, .bool false] := Blk.new_at (X := V1.drew) (b := V1.heap.size) rfl
          have hYW := h0.below hb2 h0.lt
          have hb2 : Below V1.heap.size V1 w2 := below_to (by repeat' (first | (with_reducible exact Below.refl _ _) | (with_reducible assumption) | (with_reducible refine Below.alloc ?_ ?_ _) | (with_reducible refine below_drewN ?_ _) | (with_reducible refine Below.drew ?_) | (with_reducible refine Below.setCell ?_ ?_ _) | go_size)) hb2
          refine hK _ _ hb2 ?_
          clear hK K
          (refine HW.q (i := 11) rfl (by kernel_rfl) (fun _ _ _ _ h => h) ?_ ?_; (focus ((try dsimp only); exact (by repeat' (first | (with_reducible exact Below.refl _ _) | (with_reducible assumption) | (with_reducible refine Below.alloc ?_ ?_ _) | (with_reducible refine below_drewN ?_ _) | (with_reducible refine Below.drew ?_) | (with_reducible refine Below.setCell ?_ ?_ _) | go_size)))); intro K hK; go_simp; first | (refine hK _ ?_; clear hK K) | (refine ⟨_, fun _ _ => rfl, hK _ ?_⟩; clear hK K))
          obtain ⟨W, HW⟩ : ∃ W, Hid (w2 = W) := ⟨_, Lib.hid rfl⟩
          obtain ⟨b8, Hb8⟩ : ∃ b8, Hid (V1.heap.size = b8) := ⟨_, Lib.hid rfl⟩
          have hbW : Below V1.heap.size V1 W := by rw [← HW.out]; exact hb2
          have hYW : Hid (Blk W b8 96 #[.string ⟨#[]⟩, .string ⟨#[]⟩, .bool false, .int .i64 0, .slice none 0 0, .bool false]) := Lib.hid (by rw [← HW.out, ← Hb8.out]; exact hYW)
          have hb8 : V1.heap.size ≤ b8 := by rw [← Hb8.out]; exact Nat.le_refl _
          have HO3 : Hid (W.ownsRow V1.heap.size 50 2 (.slice A3 C[m].r.rows.length c3) C[m].r.rows.length (rowCells C[m].r.rows)) := Lib.hid (by rw [← HW.out]; exact ownsRow_base ho3 (by first | (simp; done) | (simp; omega) | omega))
          have hq8 : b8 = V1.heap.size := Hb8.out.symm
          rw [HW.out]
          have Hq8 := Lib.hid hq8
          rw [← Hq8.out]
          clear HW Hb8 ho3 hb2 hq8 Hq8
        all_goals
          refine HW.done (by kernel_rfl) ?_
          simp only [List.drop_succ_cons, List.drop_zero]
          have hb3 : Below V1.heap.size V1 (W.setCells b8 0 (leafVal (viewAt (C.drop m)) (.slice A3 C[m].r.rows.length c3)).toList) := below_setCs (g := b8) (B := V1.heap.size) _ _ _ hbW hb8
          have hY3 := hYW.out.setCs (leafVal (viewAt (C.drop m)) (.slice A3 C[m].r.rows.length c3)).toList W 0
          have hFY : Fr [b8] W (W.setCells b8 0 (leafVal (viewAt (C.drop m)) (.slice A3 C[m].r.rows.length c3)).toList) := Fr.setCs _ _ _ (Fr.refl _ _) (.inl (by simp))
          have ho4 := hFY.own HO3.out (freeOf_one hYW.out (by decide))
          refine wpList_store_mid rfl 96 _ _ rfl b8 0 (leafVal (viewAt (C.drop m)) (.slice A3 C[m].r.rows.length c3)) rfl (by rw [viewAt_last C m Hlen.out]; rfl) (hYW.out.there 0 6 (by simp)) (by kernel_rfl) (by simp [leafVal]; and_intros <;> rfl) ?_
          obtain ⟨V3, HV3⟩ : ∃ V3, Hid (W.setCells b8 0 (leafVal (viewAt (C.drop m)) (.slice A3 C[m].r.rows.length c3)).toList = V3) := ⟨_, Lib.hid rfl⟩
          rw [HV3.out] at hb3 hY3 ho4 ⊢
          simp only [leafVal, setN, List.set_cons_zero, List.set_cons_succ] at hY3
          have HZ := Lib.hid (And.intro hb8 (And.intro hb3 (And.intro hY3 ho4)))
          clear HV3 hFY HO3 hYW hbW ho4 hb3 hY3 hb8
          revert HZ
          revert V3
          revert b8
          revert c3
          revert A3
          exact key.out
      intro A3 c3 b8 V3 HZ
      obtain ⟨hb8, hb3, hY3, ho4⟩ := HZ.out
      have hY3 := Lib.hid hY3
      have HO4 := Lib.hid ho4
      clear HZ ho4 hcB
      go_wp2_with fail
      have hv := Lib.hid (viewAt_last C m Hlen.out)
      have hLm := hP.leafOk m (Nat.le_refl _)
      have hsd : Rl.leafSound C[m].r.rows (viewAt (C.drop m)).low (viewAt (C.drop m)).high (viewAt (C.drop m)).unb = true := by rw [hv.out]; exact hbase.2.1
      have hcV := fun i => hY3.out.cell i
      have hv3 := hY3.out.lt
      have hR3 : Hid (RowsR V3 V3.heap.size A3 C[m].r.rows) := Lib.hid (OwnV.reads HO4.out)
      refine wp_region_head 5 (fun w' => Below V3.heap.size V3 w') (by kernel_rfl) (by kernel_rfl) ?_
      (refine HW.q (i := 0) rfl (by kernel_rfl) (fun _ _ _ _ h => h) ?_ ?_; (focus ((try dsimp only); exact (by repeat' (first | (with_reducible exact Below.refl _ _) | (with_reducible assumption) | (with_reducible refine Below.alloc ?_ ?_ _) | (with_reducible refine below_drewN ?_ _) | (with_reducible refine Below.drew ?_) | (with_reducible refine Below.setCell ?_ ?_ _) | go_size)))); intro K hK; go_simp; first | (refine hK _ ?_; clear hK K) | (refine ⟨_, fun _ _ => rfl, hK _ ?_⟩; clear hK K))
      (refine HW.q (i := 1) rfl (by kernel_rfl) (fun _ _ _ _ h => h) ?_ ?_; (focus ((try dsimp only); exact (by repeat' (first | (with_reducible exact Below.refl _ _) | (with_reducible assumption) | (with_reducible refine Below.alloc ?_ ?_ _) | (with_reducible refine below_drewN ?_ _) | (with_reducible refine Below.drew ?_) | (with_reducible refine Below.setCell ?_ ?_ _) | go_size)))); intro K hK; go_simp; apply Exists.intro; refine ⟨fun w2 hw2 => ?_, hK _ ?_⟩; (focus (obtain ⟨hc2, hf2⟩ := bcell hw2; go_simp; first | done | rfl)); clear hK K)
      (refine HW.q (i := 2) rfl (by kernel_rfl) (fun _ _ _ _ h => h) ?_ ?_; (focus ((try dsimp only); exact (by repeat' (first | (with_reducible exact Below.refl _ _) | (with_reducible assumption) | (with_reducible refine Below.alloc ?_ ?_ _) | (with_reducible refine below_drewN ?_ _) | (with_reducible refine Below.drew ?_) | (with_reducible refine Below.setCell ?_ ?_ _) | go_size)))); intro K hK; go_simp; apply Exists.intro; refine ⟨fun w2 hw2 => ?_, hK _ ?_⟩; (focus (obtain ⟨hc2, hf2⟩ := bcell hw2; go_simp; first | done | rfl)); clear hK K)
      (refine HW.solo (i := 3) rfl (by kernel_rfl) (by kernel_rfl) ?_; intro K hK; go_simp)
      go_at_call 54
      refine (span_any (viewAt (C.drop m)) (.slice A3 C[m].r.rows.length c3) _).mono ?_
      rintro e w4 ⟨rfl, hb4⟩
      have hb4 : Below V3.heap.size V3 w4 := ⟨hb4.os, hb4.tape, hb4.output, hb4.size, hb4.block⟩
      refine hK _ _ hb4 ?_
      clear hK K
      (refine HW.solo (i := 4) rfl (by kernel_rfl) (by kernel_rfl) ?_; intro K hK; go_simp)
      go_at_call 53
      refine (sound_any C[m].r.rows A3 c3 _ _ _ _ (hR3.out.below (by repeat' (first | (with_reducible exact Below.refl _ _) | (with_reducible assumption) | (with_reducible refine Below.alloc ?_ ?_ _) | (with_reducible refine below_drewN ?_ _) | (with_reducible refine Below.drew ?_) | (with_reducible refine Below.setCell ?_ ?_ _) | go_size))) (by have := hbase.2.2; omega) hLm.low hLm.high hsd).mono ?_
      rintro e w5 ⟨rfl, hb5⟩
      have hb5 : Below V3.heap.size V3 w5 := hb4.trans ((show Below w4.heap.size w4 w5 from ⟨hb5.os, hb5.tape, hb5.output, hb5.size, hb5.block⟩).mono hb4.size)
      refine hK _ _ hb5 ?_
      clear hK K
      refine HW.done (by kernel_rfl) ?_
      simp only [List.drop_succ_cons, List.drop_zero]
      have hw2 : IntKind.i64.wrap ((m : Int) - 1) = (m : Int) - 1 := IntWalk.i64_in _ (by omega)
      go_wp2_with fail
      refine wp_name ?_
      intro V5 HV5
      have hs1 := hb1.size
      have hs3 := hb3.size
      have hs5 := hb5.size
      have hb5 : Below V3.heap.size V3 V5 := by rw [← HV5.out]; exact (by repeat' (first | (with_reducible exact Below.refl _ _) | (with_reducible assumption) | (with_reducible refine Below.alloc ?_ ?_ _) | (with_reducible refine below_drewN ?_ _) | (with_reducible refine Below.drew ?_) | (with_reducible refine Below.setCell ?_ ?_ _) | go_size))
      have hs6 := hb5.size
      have hbT : Below V.heap.size V V5 := (hb1.trans (hb3.mono hs1)).trans (hb5.mono (by omega))
      have hY5 : Blk V5 b8 96 (leafVal (viewAt (C.drop m)) (.slice A3 C[m].r.rows.length c3)) := hY3.out.below hb5 hv3
      have ho5 := ownsRow_base (ownsRow_keep HO4.out hb5) (show w.heap.size ≤ V1.heap.size by omega)
      have hC5 := Lib.hid (hCV.out.keep hbT)
      have hZ5 := Lib.hid (hZV.out.below hbT (by omega))
      have hbg : g ≠ b8 := by omega
      have hb8w : w.heap.size < b8 := by omega
      have hb8V : b8 < V5.heap.size := hY5.lt
      have hfree : FreeOf V5 [b8] 83 ∧ FreeOf V5 [b8] 50 ∧ FreeOf V5 [b8] 132 := ⟨freeOf_one hY5 (by decide), freeOf_one hY5 (by decide), freeOf_one hY5 (by decide)⟩
      have hown0 : OwnV V5 w.heap.size (.slice A3 C[m].r.rows.length c3) (viewAt (C.drop m)).rows := by
        rw [hv.out]
        obtain ⟨_, _, e6, hle3⟩ := own_form ho5
        injection e6 with _ _ e7
        subst e7
        exact ⟨A3, c3, rfl, hle3, ho5⟩
      clear HV5 hcV hY3 HO4 hR3 ho5 hB1 hR1 hb4 hsd hb3 hb1
      have HF := Lib.hid hfree
      have HX := Lib.hid (And.intro hY5 hown0)
      clear hfree hY5 hown0
      go_loopw [9] (fun i wr => ∃ (j : Nat) (x : Int) (rv : Value), j ≤ m ∧ i = .int .i64 x ∧ x = (j : Int) - 1 ∧ Blk wr b8 96 (leafVal (viewAt (C.drop j)) rv) ∧ OwnV wr w.heap.size rv (viewAt (C.drop j)).rows ∧ Fr [b8] V5 wr) (fun i _ => (intOf i + 1).toNat)
      case atStart => exact ⟨m, _, _, Nat.le_refl _, rfl, rfl, HX.out.1, HX.out.2, Fr.refl _ _⟩
      case round =>
        obtain ⟨j, x, rv, hj, rfl, hx, hY, ⟨A5, c5, rfl, hle5, ho5⟩, hF⟩ := hrel
        have hs7 := hF.size
        rcases j with _ | j
        · have hxn : ¬ (0 ≤ x) := by omega
          have hxn2 : x < 0 := by omega
          clear hx
          have hY := Lib.hid hY
          have hcV := fun i => hY.out.cell i
          have hZr := Lib.hid (hF.blk hZ5.out (by simp; omega))
          have hcZ := fun i => hZr.out.cell i
          have hfZ := fun i => hZr.out.frozen i
          simp only [leafVal] at hcV
          have HO5 := Lib.hid ho5
          clear ho5
          go_wp2_with fail
          have hR := hZr.out.setCs (leafVal (viewAt C) (.slice A5 (viewAt C).rows.length c5)).toList wr 0
          have hbR : Below w.heap.size w (wr.setCells w.heap.size 0 (leafVal (viewAt C) (.slice A5 (viewAt C).rows.length c5)).toList) :=
            below_setCs (g := w.heap.size) _ _ _ (hbV.trans ((hbT.mono (by omega)).trans (hF.below (by omega) (by simp; omega)))) (Nat.le_refl _)
          have hoR := (Fr.setCs (F := [w.heap.size]) (g := w.heap.size) (leafVal (viewAt C) (.slice A5 (viewAt C).rows.length c5)).toList wr 0 (Fr.refl _ _) (.inl (by simp))).own HO5.out (freeOf_one hZr.out (by decide))
          obtain ⟨V9, HV9⟩ : ∃ V9, Hid (wr.setCells w.heap.size 0 (leafVal (viewAt C) (.slice A5 (viewAt C).rows.length c5)).toList = V9) := ⟨_, Lib.hid rfl⟩
          rw [HV9.out] at hR hbR hoR
          simp only [leafVal, World.setCells, Nat.zero_add, Nat.reduceAdd] at HV9
          try simp only [List.drop_zero]
          rw [HV9.out]
          have hcc := fun i => Blk.cell hR i
          simp only [leafVal, setN, List.set_cons_zero, List.set_cons_succ] at hcc
          refine bodyPost_ret (v := .tuple #[.agg (leafVal (viewAt C) (.slice A5 (viewAt C).rows.length c5)), .nilIface]) ?_ rfl ⟨.slice A5 (viewAt C).rows.length c5, rfl, ⟨A5, c5, rfl, hle5, hoR⟩, hbR⟩
          simp [results, Tryz.results33, go_sem, hcc, leafVal]
        · obtain rfl : x = (j : Int) := by omega
          clear hx
          have HL := Lib.hid (hP.view (m - (j + 1)) (j + 1) (by omega))
          have hjl : j < C.length := by omega
          obtain ⟨hk2, hfit, hhas⟩ := hP.puts j (by omega) hjl hm
          have hokj := hP.ok C[j] (List.getElem_mem hjl)
          have hLj := hP.leafOk (j + 1) (by omega)
          have hnext := Lib.hid (viewAt_drop C j (by omega))
          have hw3 : IntKind.i64.wrap ((j : Int) - 1) = (j : Int) - 1 := IntWalk.i64_in _ (by omega)
          have hCr := Lib.hid (hC5.out.fr hF HF.out.1 HF.out.2.1 HF.out.2.2)
          have hcS := fun k hk => hCr.out.cell j hjl k hk
          have hc0 := hcS 0 (by omega)
          obtain ⟨A6, c6, e1, _, _⟩ := (hCr.out.recs _ (List.getElem_mem hjl)).rows
          obtain ⟨A7, c7, e2, _, _⟩ := (hCr.out.recs _ (List.getElem_mem hjl)).ents
          simp only [recCells, recVal, List.getElem?_cons_zero, Nat.add_zero, hk2, e1, e2] at hcS hc0
          clear e1 e2
          have hglr : g < wr.heap.size := hCr.out.lt
          have hY := Lib.hid hY
          have hcV := fun i => hY.out.cell i
          simp only [leafVal] at hcV
          have HO5 := Lib.hid ho5
          clear ho5
          go_wp2_with fail
          refine wp_region_head 10 (fun w' => Fr [b8] wr w') (by kernel_rfl) (by kernel_rfl) ?_
          (refine HW.q (i := 1) rfl (by kernel_rfl) (fun _ _ _ _ h => h) ?_ ?_; (focus ((try dsimp only); exact (by repeat' (first | (with_reducible exact Fr.refl _ _) | (with_reducible assumption) | (with_reducible refine Fr.drew ?_) | (with_reducible refine Fr.drewN ?_ _) | (with_reducible refine Fr.alloc ?_ _))))); intro K hK; go_simp; first | (refine hK _ ?_; clear hK K) | (refine ⟨_, fun _ _ => rfl, hK _ ?_⟩; clear hK K))
          (refine HW.q (i := 2) rfl (by kernel_rfl) (fun _ _ _ _ h => h) ?_ ?_; (focus ((try dsimp only); exact (by repeat' (first | (with_reducible exact Fr.refl _ _) | (with_reducible assumption) | (with_reducible refine Fr.drew ?_) | (with_reducible refine Fr.drewN ?_ _) | (with_reducible refine Fr.alloc ?_ _))))); intro K hK; go_simp; first | (refine hK _ ?_; clear hK K) | (refine ⟨_, fun _ _ => rfl, hK _ ?_⟩; clear hK K))
          (refine HW.q (i := 3) rfl (by kernel_rfl) (fun _ _ _ _ h => h) ?_ ?_; (focus ((try dsimp only); exact (by repeat' (first | (with_reducible exact Fr.refl _ _) | (with_reducible assumption) | (with_reducible refine Fr.drew ?_) | (with_reducible refine Fr.drewN ?_ _) | (with_reducible refine Fr.alloc ?_ _))))); intro K hK; go_simp; first | (refine hK _ ?_; clear hK K) | (refine ⟨_, fun _ _ => rfl, hK _ ?_⟩; clear hK K))
          (refine HW.q (i := 4) rfl (by kernel_rfl) (fun _ _ _ _ h => h) ?_ ?_; (focus ((try dsimp only); exact (by repeat' (first | (with_reducible exact Fr.refl _ _) | (with_reducible assumption) | (with_reducible refine Fr.drew ?_) | (with_reducible refine Fr.drewN ?_ _) | (with_reducible refine Fr.alloc ?_ _))))); intro K hK; go_simp; apply Exists.intro; refine ⟨fun w2 hw2 => ?_, hK _ ?_⟩; (focus (obtain ⟨hc2, hf2⟩ := frcell hw2; go_simp; first | done | rfl)); clear hK K)
          (refine HW.solo (i := 0) rfl (by kernel_rfl) (by kernel_rfl) ?_; intro K hK; go_simp)
          refine hK _ _ (by repeat' (first | (with_reducible exact Fr.refl _ _) | (with_reducible assumption) | (with_reducible refine Fr.drew ?_) | (with_reducible refine Fr.drewN ?_ _) | (with_reducible refine Fr.alloc ?_ _))) ?_
          clear hK K
          (refine HW.solo (i := 5) rfl (by kernel_rfl) (by kernel_rfl) ?_; intro K hK; go_simp)
          go_at_call 55
          refine (up_put (viewAt (C.drop (j + 1))) (.slice A5 (viewAt (C.drop (j + 1))).rows.length c5) w.heap.size _ _ _ _ _ _ _ _ _ _ _ _ _ _ _ hLj (by have := HL.out.2.2.2.2.1; omega) ⟨A5, c5, rfl, hle5, ownsRow_keep HO5.out (by repeat' (first | (with_reducible exact Below.refl _ _) | (with_reducible assumption) | (with_reducible refine Below.alloc ?_ ?_ _) | (with_reducible refine below_drewN ?_ _) | (with_reducible refine Below.drew ?_) | (with_reducible refine Below.setCell ?_ ?_ _) | go_size))⟩ (by simp; omega) hokj.key hokj.value hfit HL.out.2.2.2.1 (by unfold Rl.LeafView.has; rw [HL.out.1, HL.out.2.1, HL.out.2.2.1]; exact hhas)).mono ?_
          rintro e w6 ⟨rv6, rfl, ⟨A8, c8, rfl, hle8, ho8⟩, hb6⟩
          have hb6 : Below wr.heap.size wr w6 := ⟨hb6.os, hb6.tape, hb6.output, hb6.size, hb6.block⟩
          have hF6 : Fr [b8] wr w6 := Fr.of_below hb6 _
          have hrw : (viewAt (C.drop j)).rows = Rl.rowsPut (viewAt (C.drop (j + 1))).rows ⟨C[j].r.key, C[j].r.value⟩ := by rw [hnext.out]
          have hle8 : (viewAt (C.drop j)).rows.length ≤ c8 := by rw [hrw]; exact hle8
          have ho8 : w6.ownsRow w.heap.size 50 2 (.slice A8 (viewAt (C.drop j)).rows.length c8) (viewAt (C.drop j)).rows.length (rowCells (viewAt (C.drop j)).rows) := by rw [hrw]; exact ho8
          have hY6 := hY.out.below hb6 hY.out.lt
          refine hK _ _ hF6 ?_
          clear hK K
          simp only [leafVal]
          (refine HW.q (i := 6) rfl (by kernel_rfl) (fun _ _ _ _ h => h) ?_ ?_; (focus ((try dsimp only); exact (by repeat' (first | (with_reducible exact Fr.refl _ _) | (with_reducible assumption) | (with_reducible refine Fr.drew ?_) | (with_reducible refine Fr.drewN ?_ _) | (with_reducible refine Fr.alloc ?_ _))))); intro K hK; go_simp; first | (refine hK _ ?_; clear hK K) | (refine ⟨_, fun _ _ => rfl, hK _ ?_⟩; clear hK K))
          (refine HW.q (i := 7) rfl (by kernel_rfl) (fun _ _ _ _ h => h) ?_ ?_; (focus ((try dsimp only); exact (by repeat' (first | (with_reducible exact Fr.refl _ _) | (with_reducible assumption) | (with_reducible refine Fr.drew ?_) | (with_reducible refine Fr.drewN ?_ _) | (with_reducible refine Fr.alloc ?_ _))))); intro K hK; go_simp; first | (refine hK _ ?_; clear hK K) | (refine ⟨_, fun _ _ => rfl, hK _ ?_⟩; clear hK K))
          (refine HW.q (i := 8) rfl (by kernel_rfl) (fun _ _ _ _ h => h) ?_ ?_; (focus ((try dsimp only); exact (by repeat' (first | (with_reducible exact Fr.refl _ _) | (with_reducible assumption) | (with_reducible refine Fr.drew ?_) | (with_reducible refine Fr.drewN ?_ _) | (with_reducible refine Fr.alloc ?_ _))))); intro K hK; go_simp; first | (refine hK _ ?_; clear hK K) | (refine ⟨_, fun _ _ => rfl, hK _ ?_⟩; clear hK K))
          refine HW.solo (i := 9) rfl (by kernel_rfl) (by kernel_rfl) ?_
          intro K hK
          have hFY : Fr [b8] w6 (w6.setCells b8 0 (leafVal (viewAt (C.drop j)) (.slice A8 (viewAt (C.drop j)).rows.length c8)).toList) := Fr.setCs _ _ _ (Fr.refl _ _) (.inl (by simp))
          have ho9 := hFY.own ho8 (freeOf_one hY6 (by decide))
          have hY9 := hY6.setCs (leafVal (viewAt (C.drop j)) (.slice A8 (viewAt (C.drop j)).rows.length c8)).toList w6 0
          refine wp_store_mid 96 _ _ rfl b8 0 (leafVal (viewAt (C.drop j)) (.slice A8 (viewAt (C.drop j)).rows.length c8)) rfl (by rw [hnext.out]; rfl) (hY6.there 0 6 (by simp [leafVal])) (by kernel_rfl) (by simp [leafVal]; and_intros <;> rfl) ?_
          refine hK _ _ (hF6.trans hFY) ?_
          clear hK K
          refine HW.done (by kernel_rfl) ?_
          simp only [List.drop_succ_cons, List.drop_zero]
          obtain ⟨V9, HV9⟩ : ∃ V9, Hid (w6.setCells b8 0 (leafVal (viewAt (C.drop j)) (.slice A8 (viewAt (C.drop j)).rows.length c8)).toList = V9) := ⟨_, Lib.hid rfl⟩
          rw [HV9.out] at hFY ho9 hY9 ⊢
          simp only [leafVal, setN, List.set_cons_zero, List.set_cons_succ] at hY9
          have HZ := Lib.hid (And.intro hY9 (And.intro ho9 (hF.trans (hF6.trans hFY))))
          clear HV9 hFY ho9 hY9 ho8 hY6 hcS hc0 hcV
          go_wp2_with fail
          exact ⟨⟨j, (j : Int) - 1, .slice A8 (viewAt (C.drop j)).rows.length c8, by omega, rfl, rfl, HZ.out.1, ⟨A8, c8, rfl, hle8, HZ.out.2.1⟩, HZ.out.2.2⟩, by first | (simp [intOf]; done) | (simp [intOf]; omega)⟩
end Go.Proofs.YthidclcliflhkaaGreat
end
section
open Go Go.RowKit
namespace Go.Proofs.YthidclcliflhkaaGreat

def pageVal (n hs hg : Int) (cv fv : Value) (leaf : Bool) (v : Rl.LeafView) (rv : Value) : Array Value :=
  #[.int .i64 n, .int .i64 hs, .int .i64 hg, cv, fv, .bool leaf, .string v.low, .string v.high, .bool v.unb, .int .i64 v.right, rv, .bool v.gone,
    .string ⟨#[]⟩, .string ⟨#[]⟩, .bool false, .int .i64 0, .slice none 0 0, .bool false, .int .i64 0, .int .i64 0, .string ⟨#[]⟩]
theorem page_one (n hs hg : Int) (A B : Option Addr) (a b c d : Nat) (leaf : Bool) (v : Rl.LeafView) (C : Option Addr) (x y : Nat) : (pageVal n hs hg (.slice A a b) (.slice B c d) leaf v (.slice C x y)).all (·.oneCell') = true := by
  simp [pageVal]; and_intros <;> rfl
end Go.Proofs.YthidclcliflhkaaGreat
end
