/- The installer of a job without new pages: contracts. What the thread's small functions compute: contracts. -/
import Derived.Test.YthidclcliflhkaaGreatZ06
import Derived.Test.YthidclcliflhkaaGreatZ11
section
open Go Go.RowKit
namespace Go.Proofs.YthidclcliflhkaaGreat

/-- An installer's cells. -/
def instC (pn os og news : Int) (mk : Value) (stage : Int) (pv bv : Value) (r : Rl.Rec) (rv ev rf : Value) (at_ : Int) (done : Bool) (er : Value) : Array Value :=
  #[.int .i64 pn, .int .i64 os, .int .i64 og, .int .i64 news, mk, .int .i64 stage, pv, bv, .int .i64 r.kind, .string r.low, .string r.high, .bool r.unb, .int .i64 r.right, rv, ev, .string r.key, .string r.value, .int .i64 r.page,
    .int .i64 r.hold.page, .int .i64 r.hold.left, .string r.hold.key, .int .i64 r.next.slot, .int .i64 r.next.gen, rf, .int .i64 at_, .bool done, er]
theorem intI_info : (Tryz.prog.info? 3).map (fun i => (i.zero, i.size, i.bytes)) = some (some (.int .i64 0), 1, 8) := by kernel_rfl
set_option maxRecDepth 100000 in
set_option maxHeartbeats 2000000 in
theorem made0_ok (bi br : Nat) (pn os og : Int) (r : Rl.Rec) (A1 A2 : Option Addr) (m1 c1 m2 c2 : Nat) (w : World) (hI : Blk w bi 257 (instC pn os og 0 (onlyFn br) 0 (.slice none 0 0) (.slice none 0 0) {} (.slice none 0 0) (.slice none 0 0) (.slice none 0 0) 0 false .nilIface))
    (hR : Blk w br 83 (recVal r (.slice A1 m1 c1) (.slice A2 m2 c2))) :
    Calls Tryz.prog 163 #[.pointer (some ⟨bi, 0, none⟩)] w fun e w' => (∃ v, e = .returned v) ∧ Blk w' bi 257 (instC pn os og 0 (onlyFn br) 3 (.slice none 0 0) (.slice none 0 0) r (.slice A1 m1 c1) (.slice A2 m2 c2) (.slice none 0 0) 0 false .nilIface) ∧ Fr [bi] w w' := by
  have hlt := hI.lt
  have hrl := hR.lt
  have hcI := fun i => hI.cell i
  simp only [instC, onlyFn] at hcI
  have HI := Lib.hid hI
  have HR := Lib.hid hR
  clear hI hR
  obtain ⟨i0, hi0, hz0, hz1, hz2⟩ := info_parts intI_info
  go_enter Tryz.func163, Tryz.ntmps163
  go_wp2_with fail
  refine via (T := ?T) (fun key => ?main) ?rest
  case main =>
    refine wp_region_head 17 (SB w) (by kernel_rfl) (by kernel_rfl) ?_
    obtain ⟨V0, HV0⟩ : ∃ X, Hid (w.drew = X) := ⟨_, Lib.hid rfl⟩
    have hB : Below w.heap.size w V0 := by rw [← HV0.out]; exact (by repeat' (first | (with_reducible exact Below.refl _ _) | (with_reducible assumption) | (with_reducible refine Below.alloc ?_ ?_ _) | (with_reducible refine below_drewN ?_ _) | (with_reducible refine Below.drew ?_) | (with_reducible refine Below.setCell ?_ ?_ _) | go_size))
    have hBs := hB.size
    rw [HV0.out]
    clear HV0
    (refine HW.q (i := 0) rfl (by kernel_rfl) (fun _ _ _ _ h => h) ?_ ?_; (focus ((try dsimp only); exact (by repeat' (first | (with_reducible exact Below.refl _ _) | (with_reducible assumption) | (with_reducible refine Below.alloc ?_ ?_ _) | (with_reducible refine below_drewN ?_ _) | (with_reducible refine Below.drew ?_) | (with_reducible refine Below.setCell ?_ ?_ _) | go_size)))); intro K hK; go_simp; first | (refine hK _ ?_; clear hK K) | (refine ⟨_, fun _ _ => rfl, hK _ ?_⟩; clear hK K))
    (refine HW.q (i := 1) rfl (by kernel_rfl) (fun _ _ _ _ h => h) ?_ ?_; (focus ((try dsimp only); exact (by repeat' (first | (with_reducible exact Below.refl _ _) | (with_reducible assumption) | (with_reducible refine Below.alloc ?_ ?_ _) | (with_reducible refine below_drewN ?_ _) | (with_reducible refine Below.drew ?_) | (with_reducible refine Below.setCell ?_ ?_ _) | go_size)))); intro K hK; go_simp; first | (refine hK _ ?_; clear hK K) | (refine ⟨_, fun _ _ => rfl, hK _ ?_⟩; clear hK K))
    (refine HW.q (i := 2) rfl (by kernel_rfl) (fun _ _ _ _ h => h) ?_ ?_; (focus ((try dsimp only); exact (by repeat' (first | (with_reducible exact Below.refl _ _) | (with_reducible assumption) | (with_reducible refine Below.alloc ?_ ?_ _) | (with_reducible refine below_drewN ?_ _) | (with_reducible refine Below.drew ?_) | (with_reducible refine Below.setCell ?_ ?_ _) | go_size)))); intro K hK; go_simp; first | (refine hK _ ?_; clear hK K) | (refine ⟨_, fun _ _ => rfl, hK _ ?_⟩; clear hK K))
    (refine HW.q (i := 3) rfl (by kernel_rfl) (fun _ _ _ _ h => h) ?_ ?_; (focus ((try dsimp only); exact (by repeat' (first | (with_reducible exact Below.refl _ _) | (with_reducible assumption) | (with_reducible refine Below.alloc ?_ ?_ _) | (with_reducible refine below_drewN ?_ _) | (with_reducible refine Below.drew ?_) | (with_reducible refine Below.setCell ?_ ?_ _) | go_size)))); intro K hK; go_simp; first | (refine hK _ ?_; clear hK K) | (refine ⟨_, fun _ _ => rfl, hK _ ?_⟩; clear hK K))
    (refine HW.q (i := 6) rfl (by kernel_rfl) (fun _ _ _ _ h => h) ?_ ?_; (focus ((try dsimp only); exact (by repeat' (first | (with_reducible exact Below.refl _ _) | (with_reducible assumption) | (with_reducible refine Below.alloc ?_ ?_ _) | (with_reducible refine below_drewN ?_ _) | (with_reducible refine Below.drew ?_) | (with_reducible refine Below.setCell ?_ ?_ _) | go_size)))); intro K hK; go_simp; first | (refine hK _ ?_; clear hK K) | (refine ⟨_, fun _ _ => rfl, hK _ ?_⟩; clear hK K))
    (refine HW.q (i := 7) rfl (by kernel_rfl) (fun _ _ _ _ h => h) ?_ ?_; (focus ((try dsimp only); exact (by repeat' (first | (with_reducible exact Below.refl _ _) | (with_reducible assumption) | (with_reducible refine Below.alloc ?_ ?_ _) | (with_reducible refine below_drewN ?_ _) | (with_reducible refine Below.drew ?_) | (with_reducible refine Below.setCell ?_ ?_ _) | go_size)))); intro K hK; go_simp; first | (refine hK _ ?_; clear hK K) | (refine ⟨_, fun _ _ => rfl, hK _ ?_⟩; clear hK K))
    (refine HW.q (i := 8) rfl (by kernel_rfl) (fun _ _ _ _ h => h) ?_ ?_; (focus ((try dsimp only); exact (by repeat' (first | (with_reducible exact Below.refl _ _) | (with_reducible assumption) | (with_reducible refine Below.alloc ?_ ?_ _) | (with_reducible refine below_drewN ?_ _) | (with_reducible refine Below.drew ?_) | (with_reducible refine Below.setCell ?_ ?_ _) | go_size)))); intro K hK; go_simp; first | (refine hK _ ?_; clear hK K) | (refine ⟨_, fun _ _ => rfl, hK _ ?_⟩; clear hK K))
    (refine HW.q (i := 4) rfl (by kernel_rfl) (fun _ _ _ _ h => h) ?_ ?_; (focus ((try dsimp only); exact (by repeat' (first | (with_reducible exact Below.refl _ _) | (with_reducible assumption) | (with_reducible refine Below.alloc ?_ ?_ _) | (with_reducible refine below_drewN ?_ _) | (with_reducible refine Below.drew ?_) | (with_reducible refine Below.setCell ?_ ?_ _) | go_size)))); intro K hK; go_simp; apply Exists.intro; refine ⟨fun w2 hw2 => ?_, hK _ ?_⟩; (focus (obtain ⟨hc2, hf2⟩ := bcell hw2; go_simp; first | done | rfl)); clear hK K)
    (refine HW.q (i := 9) rfl (by kernel_rfl) (fun _ _ _ _ h => h) ?_ ?_; (focus ((try dsimp only); exact (by repeat' (first | (with_reducible exact Below.refl _ _) | (with_reducible assumption) | (with_reducible refine Below.alloc ?_ ?_ _) | (with_reducible refine below_drewN ?_ _) | (with_reducible refine Below.drew ?_) | (with_reducible refine Below.setCell ?_ ?_ _) | go_size)))); intro K hK; go_simp; apply Exists.intro; refine ⟨fun w2 hw2 => ?_, hK _ ?_⟩; (focus (obtain ⟨hc2, hf2⟩ := bcell hw2; go_simp; first | done | rfl)); clear hK K)
    refine HW.two (i := 5) (j := 15) rfl rfl (by kernel_rfl) (by kernel_rfl) (by kernel_rfl) ?_ ?_
    · intro K hK
      go_simp
      refine hK _ _ (by repeat' (first | (with_reducible exact Below.refl _ _) | (with_reducible assumption) | (with_reducible refine Below.alloc ?_ ?_ _) | (with_reducible refine below_drewN ?_ _) | (with_reducible refine Below.drew ?_) | (with_reducible refine Below.setCell ?_ ?_ _) | go_size)) ?_
      clear hK K
      obtain ⟨W1, HW2⟩ : ∃ X, Hid (V0.alloc (.cells #[] 3) = X) := ⟨_, Lib.hid rfl⟩
      obtain ⟨b5, Hb2⟩ : ∃ b, Hid (V0.heap.size = b) := ⟨_, Lib.hid rfl⟩
      have hb2 : Below V0.heap.size V0 W1 := by rw [← HW2.out]; exact (by repeat' (first | (with_reducible exact Below.refl _ _) | (with_reducible assumption) | (with_reducible refine Below.alloc ?_ ?_ _) | (with_reducible refine below_drewN ?_ _) | (with_reducible refine Below.drew ?_) | (with_reducible refine Below.setCell ?_ ?_ _) | go_size))
      have F5 : Hid (Blk W1 b5 3 #[] ∧ w.heap.size ≤ b5) := Lib.hid (by rw [← HW2.out, ← Hb2.out]; exact ⟨Blk.new_at rfl, hB.size⟩)
      replace hB : Below w.heap.size w W1 := below_to hB hb2
      replace hBs := hB.size
      rw [HW2.out, Hb2.out]
      clear HW2 Hb2 hb2
      refine HW.two (i := 10) (j := 15) rfl rfl (by kernel_rfl) (by kernel_rfl) (by kernel_rfl) ?_ ?_
      · intro K hK
        refine wp_append_nil (.tmp 12) (.tmp 16) _ rfl 0 3 i0 1 Tryz.underlying89 hi0 (.slice (some ⟨b5, 0, none⟩) 0 0) 0 [] rfl (own_of_blk F5.out.1 0 1 0 0 (Nat.zero_le _) rfl (Nat.le_refl _) (Nat.zero_le _)) 0 rfl ?_
        refine hK _ _ hB ?_
        clear hK K
        refine HW.two (i := 11) (j := 15) rfl rfl (by kernel_rfl) (by kernel_rfl) (by kernel_rfl) ?_ ?_
        · intro K hK
          go_simp
          go_at_call 148
          refine (only1_any br r A1 A2 m1 c1 m2 c2 _ _ (HR.out.below hB hrl)).mono ?_
          rintro e W2 ⟨rfl, hb2⟩
          replace F5 : Hid (Blk W2 b5 3 #[] ∧ w.heap.size ≤ b5) := Lib.hid (⟨F5.out.1.below hb2 F5.out.1.lt, F5.out.2⟩)
          replace hB : Below w.heap.size w W2 := below_to hB hb2
          replace hBs := hB.size
          refine hK _ _ hB ?_
          clear hK K
          clear hb2
          (refine HW.q (i := 12) rfl (by kernel_rfl) (fun _ _ _ _ h => h) ?_ ?_; (focus ((try dsimp only); exact (by repeat' (first | (with_reducible exact Below.refl _ _) | (with_reducible assumption) | (with_reducible refine Below.alloc ?_ ?_ _) | (with_reducible refine below_drewN ?_ _) | (with_reducible refine Below.drew ?_) | (with_reducible refine Below.setCell ?_ ?_ _) | go_size)))); intro K hK; go_simp; first | (refine hK _ ?_; clear hK K) | (refine ⟨_, fun _ _ => rfl, hK _ ?_⟩; clear hK K))
          (refine HW.q (i := 13) rfl (by kernel_rfl) (fun _ _ _ _ h => h) ?_ ?_; (focus ((try dsimp only); exact (by repeat' (first | (with_reducible exact Below.refl _ _) | (with_reducible assumption) | (with_reducible refine Below.alloc ?_ ?_ _) | (with_reducible refine below_drewN ?_ _) | (with_reducible refine Below.drew ?_) | (with_reducible refine Below.setCell ?_ ?_ _) | go_size)))); intro K hK; go_simp; first | (refine hK _ ?_; clear hK K) | (refine ⟨_, fun _ _ => rfl, hK _ ?_⟩; clear hK K))
          (refine HW.q (i := 14) rfl (by kernel_rfl) (fun _ _ _ _ h => h) ?_ ?_; (focus ((try dsimp only); exact (by repeat' (first | (with_reducible exact Below.refl _ _) | (with_reducible assumption) | (with_reducible refine Below.alloc ?_ ?_ _) | (with_reducible refine below_drewN ?_ _) | (with_reducible refine Below.drew ?_) | (with_reducible refine Below.setCell ?_ ?_ _) | go_size)))); intro K hK; go_simp; first | (refine hK _ ?_; clear hK K) | (refine ⟨_, fun _ _ => rfl, hK _ ?_⟩; clear hK K))
          refine HW.solo (i := 15) rfl (by kernel_rfl) (by kernel_rfl) ?_
          intro K hK
          go_simp
          refine hK _ _ (by repeat' (first | (with_reducible exact Below.refl _ _) | (with_reducible assumption) | (with_reducible refine Below.alloc ?_ ?_ _) | (with_reducible refine below_drewN ?_ _) | (with_reducible refine Below.drew ?_) | (with_reducible refine Below.setCell ?_ ?_ _) | go_size)) ?_
          clear hK K
          obtain ⟨W3, HW2⟩ : ∃ X, Hid (W2.alloc (.cells #[.int .i64 0, .string ⟨#[]⟩, .string ⟨#[]⟩, .bool false, .int .i64 0, .slice none 0 0, .slice none 0 0, .string ⟨#[]⟩, .string ⟨#[]⟩, .int .i64 0, .int .i64 0, .int .i64 0, .string ⟨#[]⟩, .int .i64 0, .int .i64 0] 83) = X) := ⟨_, Lib.hid rfl⟩
          obtain ⟨b3, Hb2⟩ : ∃ b, Hid (W2.heap.size = b) := ⟨_, Lib.hid rfl⟩
          have hb2 : Below W2.heap.size W2 W3 := by rw [← HW2.out]; exact (by repeat' (first | (with_reducible exact Below.refl _ _) | (with_reducible assumption) | (with_reducible refine Below.alloc ?_ ?_ _) | (with_reducible refine below_drewN ?_ _) | (with_reducible refine Below.drew ?_) | (with_reducible refine Below.setCell ?_ ?_ _) | go_size))
          replace F5 : Hid (Blk W3 b5 3 #[] ∧ w.heap.size ≤ b5) := Lib.hid (⟨F5.out.1.below hb2 F5.out.1.lt, F5.out.2⟩)
          have F3 : Hid (Blk W3 b3 83 zrec0 ∧ w.heap.size ≤ b3) := Lib.hid (by rw [← HW2.out, ← Hb2.out]; exact ⟨Blk.new_at rfl, hB.size⟩)
          replace hB : Below w.heap.size w W3 := below_to hB hb2
          replace hBs := hB.size
          rw [HW2.out, Hb2.out]
          clear HW2 Hb2 hb2
          (refine HW.q (i := 16) rfl (by kernel_rfl) (fun _ _ _ _ h => h) ?_ ?_; (focus ((try dsimp only); exact (by repeat' (first | (with_reducible exact Below.refl _ _) | (with_reducible assumption) | (with_reducible refine Below.alloc ?_ ?_ _) | (with_reducible refine below_drewN ?_ _) | (with_reducible refine Below.drew ?_) | (with_reducible refine Below.setCell ?_ ?_ _) | go_size)))); intro K hK; go_simp; first | (refine hK _ ?_; clear hK K) | (refine ⟨_, fun _ _ => rfl, hK _ ?_⟩; clear hK K))
          refine HW.lst #[true, true, true, true, true, true, true, true, true, true, true, true, true, true, true, true, true, false] (by kernel_rfl) ?_
          have HZ := Lib.hid (And.intro F5.out (And.intro F3.out hB))
          clear hB hBs F5 F3
          revert HZ
          revert W3
          revert b3
          revert b5
          exact key.out
        · intro K hK
          go_simp
          refine hK _ _ (by repeat' (first | (with_reducible exact Below.refl _ _) | (with_reducible assumption) | (with_reducible refine Below.alloc ?_ ?_ _) | (with_reducible refine below_drewN ?_ _) | (with_reducible refine Below.drew ?_) | (with_reducible refine Below.setCell ?_ ?_ _) | go_size)) ?_
          clear hK K
          obtain ⟨W4, HW2⟩ : ∃ X, Hid (W1.alloc (.cells #[.int .i64 0, .string ⟨#[]⟩, .string ⟨#[]⟩, .bool false, .int .i64 0, .slice none 0 0, .slice none 0 0, .string ⟨#[]⟩, .string ⟨#[]⟩, .int .i64 0, .int .i64 0, .int .i64 0, .string ⟨#[]⟩, .int .i64 0, .int .i64 0] 83) = X) := ⟨_, Lib.hid rfl⟩
          obtain ⟨b3, Hb2⟩ : ∃ b, Hid (W1.heap.size = b) := ⟨_, Lib.hid rfl⟩
          have hb2 : Below W1.heap.size W1 W4 := by rw [← HW2.out]; exact (by repeat' (first | (with_reducible exact Below.refl _ _) | (with_reducible assumption) | (with_reducible refine Below.alloc ?_ ?_ _) | (with_reducible refine below_drewN ?_ _) | (with_reducible refine Below.drew ?_) | (with_reducible refine Below.setCell ?_ ?_ _) | go_size))
          replace F5 : Hid (Blk W4 b5 3 #[] ∧ w.heap.size ≤ b5) := Lib.hid (⟨F5.out.1.below hb2 F5.out.1.lt, F5.out.2⟩)
          have F3 : Hid (Blk W4 b3 83 zrec0 ∧ w.heap.size ≤ b3) := Lib.hid (by rw [← HW2.out, ← Hb2.out]; exact ⟨Blk.new_at rfl, hB.size⟩)
          replace hB : Below w.heap.size w W4 := below_to hB hb2
          replace hBs := hB.size
          rw [HW2.out, Hb2.out]
          clear HW2 Hb2 hb2
          refine HW.solo (i := 11) rfl (by kernel_rfl) (by kernel_rfl) ?_
          intro K hK
          go_simp
          go_at_call 148
          refine (only1_any br r A1 A2 m1 c1 m2 c2 _ _ (HR.out.below hB hrl)).mono ?_
          rintro e W5 ⟨rfl, hb2⟩
          replace F5 : Hid (Blk W5 b5 3 #[] ∧ w.heap.size ≤ b5) := Lib.hid (⟨F5.out.1.below hb2 F5.out.1.lt, F5.out.2⟩)
          replace F3 : Hid (Blk W5 b3 83 zrec0 ∧ w.heap.size ≤ b3) := Lib.hid (⟨F3.out.1.below hb2 F3.out.1.lt, F3.out.2⟩)
          replace hB : Below w.heap.size w W5 := below_to hB hb2
          replace hBs := hB.size
          refine hK _ _ hB ?_
          clear hK K
          clear hb2
          (refine HW.q (i := 12) rfl (by kernel_rfl) (fun _ _ _ _ h => h) ?_ ?_; (focus ((try dsimp only); exact (by repeat' (first | (with_reducible exact Below.refl _ _) | (with_reducible assumption) | (with_reducible refine Below.alloc ?_ ?_ _) | (with_reducible refine below_drewN ?_ _) | (with_reducible refine Below.drew ?_) | (with_reducible refine Below.setCell ?_ ?_ _) | go_size)))); intro K hK; go_simp; first | (refine hK _ ?_; clear hK K) | (refine ⟨_, fun _ _ => rfl, hK _ ?_⟩; clear hK K))
          (refine HW.q (i := 13) rfl (by kernel_rfl) (fun _ _ _ _ h => h) ?_ ?_; (focus ((try dsimp only); exact (by repeat' (first | (with_reducible exact Below.refl _ _) | (with_reducible assumption) | (with_reducible refine Below.alloc ?_ ?_ _) | (with_reducible refine below_drewN ?_ _) | (with_reducible refine Below.drew ?_) | (with_reducible refine Below.setCell ?_ ?_ _) | go_size)))); intro K hK; go_simp; first | (refine hK _ ?_; clear hK K) | (refine ⟨_, fun _ _ => rfl, hK _ ?_⟩; clear hK K))
          (refine HW.q (i := 14) rfl (by kernel_rfl) (fun _ _ _ _ h => h) ?_ ?_; (focus ((try dsimp only); exact (by repeat' (first | (with_reducible exact Below.refl _ _) | (with_reducible assumption) | (with_reducible refine Below.alloc ?_ ?_ _) | (with_reducible refine below_drewN ?_ _) | (with_reducible refine Below.drew ?_) | (with_reducible refine Below.setCell ?_ ?_ _) | go_size)))); intro K hK; go_simp; first | (refine hK _ ?_; clear hK K) | (refine ⟨_, fun _ _ => rfl, hK _ ?_⟩; clear hK K))
          (refine HW.q (i := 16) rfl (by kernel_rfl) (fun _ _ _ _ h => h) ?_ ?_; (focus ((try dsimp only); exact (by repeat' (first | (with_reducible exact Below.refl _ _) | (with_reducible assumption) | (with_reducible refine Below.alloc ?_ ?_ _) | (with_reducible refine below_drewN ?_ _) | (with_reducible refine Below.drew ?_) | (with_reducible refine Below.setCell ?_ ?_ _) | go_size)))); intro K hK; go_simp; first | (refine hK _ ?_; clear hK K) | (refine ⟨_, fun _ _ => rfl, hK _ ?_⟩; clear hK K))
          refine HW.lst #[true, true, true, true, true, true, true, true, true, true, true, true, true, true, true, true, true, false] (by kernel_rfl) ?_
          have HZ := Lib.hid (And.intro F5.out (And.intro F3.out hB))
          clear hB hBs F5 F3
          revert HZ
          revert W5
          revert b3
          revert b5
          exact key.out
      · intro K hK
        go_simp
        refine hK _ _ (by repeat' (first | (with_reducible exact Below.refl _ _) | (with_reducible assumption) | (with_reducible refine Below.alloc ?_ ?_ _) | (with_reducible refine below_drewN ?_ _) | (with_reducible refine Below.drew ?_) | (with_reducible refine Below.setCell ?_ ?_ _) | go_size)) ?_
        clear hK K
        obtain ⟨W6, HW2⟩ : ∃ X, Hid (W1.alloc (.cells #[.int .i64 0, .string ⟨#[]⟩, .string ⟨#[]⟩, .bool false, .int .i64 0, .slice none 0 0, .slice none 0 0, .string ⟨#[]⟩, .string ⟨#[]⟩, .int .i64 0, .int .i64 0, .int .i64 0, .string ⟨#[]⟩, .int .i64 0, .int .i64 0] 83) = X) := ⟨_, Lib.hid rfl⟩
        obtain ⟨b3, Hb2⟩ : ∃ b, Hid (W1.heap.size = b) := ⟨_, Lib.hid rfl⟩
        have hb2 : Below W1.heap.size W1 W6 := by rw [← HW2.out]; exact (by repeat' (first | (with_reducible exact Below.refl _ _) | (with_reducible assumption) | (with_reducible refine Below.alloc ?_ ?_ _) | (with_reducible refine below_drewN ?_ _) | (with_reducible refine Below.drew ?_) | (with_reducible refine Below.setCell ?_ ?_ _) | go_size))
        replace F5 : Hid (Blk W6 b5 3 #[] ∧ w.heap.size ≤ b5) := Lib.hid (⟨F5.out.1.below hb2 F5.out.1.lt, F5.out.2⟩)
        have F3 : Hid (Blk W6 b3 83 zrec0 ∧ w.heap.size ≤ b3) := Lib.hid (by rw [← HW2.out, ← Hb2.out]; exact ⟨Blk.new_at rfl, hB.size⟩)
        replace hB : Below w.heap.size w W6 := below_to hB hb2
        replace hBs := hB.size
        rw [HW2.out, Hb2.out]
        clear HW2 Hb2 hb2
        refine HW.solo (i := 10) rfl (by kernel_rfl) (by kernel_rfl) ?_
        intro K hK
        refine wp_append_nil (.tmp 12) (.tmp 16) _ rfl 0 3 i0 1 Tryz.underlying89 hi0 (.slice (some ⟨b5, 0, none⟩) 0 0) 0 [] rfl (own_of_blk F5.out.1 0 1 0 0 (Nat.zero_le _) rfl (Nat.le_refl _) (Nat.zero_le _)) 0 rfl ?_
        refine hK _ _ hB ?_
        clear hK K
        refine HW.solo (i := 11) rfl (by kernel_rfl) (by kernel_rfl) ?_
        intro K hK
        go_simp
        go_at_call 148
        refine (only1_any br r A1 A2 m1 c1 m2 c2 _ _ (HR.out.below hB hrl)).mono ?_
        rintro e W7 ⟨rfl, hb2⟩
        replace F5 : Hid (Blk W7 b5 3 #[] ∧ w.heap.size ≤ b5) := Lib.hid (⟨F5.out.1.below hb2 F5.out.1.lt, F5.out.2⟩)
        replace F3 : Hid (Blk W7 b3 83 zrec0 ∧ w.heap.size ≤ b3) := Lib.hid (⟨F3.out.1.below hb2 F3.out.1.lt, F3.out.2⟩)
        replace hB : Below w.heap.size w W7 := below_to hB hb2
        replace hBs := hB.size
        refine hK _ _ hB ?_
        clear hK K
        clear hb2
        (refine HW.q (i := 12) rfl (by kernel_rfl) (fun _ _ _ _ h => h) ?_ ?_; (focus ((try dsimp only); exact (by repeat' (first | (with_reducible exact Below.refl _ _) | (with_reducible assumption) | (with_reducible refine Below.alloc ?_ ?_ _) | (with_reducible refine below_drewN ?_ _) | (with_reducible refine Below.drew ?_) | (with_reducible refine Below.setCell ?_ ?_ _) | go_size)))); intro K hK; go_simp; first | (refine hK _ ?_; clear hK K) | (refine ⟨_, fun _ _ => rfl, hK _ ?_⟩; clear hK K))
        (refine HW.q (i := 13) rfl (by kernel_rfl) (fun _ _ _ _ h => h) ?_ ?_; (focus ((try dsimp only); exact (by repeat' (first | (with_reducible exact Below.refl _ _) | (with_reducible assumption) | (with_reducible refine Below.alloc ?_ ?_ _) | (with_reducible refine below_drewN ?_ _) | (with_reducible refine Below.drew ?_) | (with_reducible refine Below.setCell ?_ ?_ _) | go_size)))); intro K hK; go_simp; first | (refine hK _ ?_; clear hK K) | (refine ⟨_, fun _ _ => rfl, hK _ ?_⟩; clear hK K))
        (refine HW.q (i := 14) rfl (by kernel_rfl) (fun _ _ _ _ h => h) ?_ ?_; (focus ((try dsimp only); exact (by repeat' (first | (with_reducible exact Below.refl _ _) | (with_reducible assumption) | (with_reducible refine Below.alloc ?_ ?_ _) | (with_reducible refine below_drewN ?_ _) | (with_reducible refine Below.drew ?_) | (with_reducible refine Below.setCell ?_ ?_ _) | go_size)))); intro K hK; go_simp; first | (refine hK _ ?_; clear hK K) | (refine ⟨_, fun _ _ => rfl, hK _ ?_⟩; clear hK K))
        (refine HW.q (i := 16) rfl (by kernel_rfl) (fun _ _ _ _ h => h) ?_ ?_; (focus ((try dsimp only); exact (by repeat' (first | (with_reducible exact Below.refl _ _) | (with_reducible assumption) | (with_reducible refine Below.alloc ?_ ?_ _) | (with_reducible refine below_drewN ?_ _) | (with_reducible refine Below.drew ?_) | (with_reducible refine Below.setCell ?_ ?_ _) | go_size)))); intro K hK; go_simp; first | (refine hK _ ?_; clear hK K) | (refine ⟨_, fun _ _ => rfl, hK _ ?_⟩; clear hK K))
        refine HW.lst #[true, true, true, true, true, true, true, true, true, true, true, true, true, true, true, true, true, false] (by kernel_rfl) ?_
        have HZ := Lib.hid (And.intro F5.out (And.intro F3.out hB))
        clear hB hBs F5 F3
        revert HZ
        revert W7
        revert b3
        revert b5
        exact key.out
    · intro K hK
      go_simp
      refine hK _ _ (by repeat' (first | (with_reducible exact Below.refl _ _) | (with_reducible assumption) | (with_reducible refine Below.alloc ?_ ?_ _) | (with_reducible refine below_drewN ?_ _) | (with_reducible refine Below.drew ?_) | (with_reducible refine Below.setCell ?_ ?_ _) | go_size)) ?_
      clear hK K
      obtain ⟨W8, HW2⟩ : ∃ X, Hid (V0.alloc (.cells #[.int .i64 0, .string ⟨#[]⟩, .string ⟨#[]⟩, .bool false, .int .i64 0, .slice none 0 0, .slice none 0 0, .string ⟨#[]⟩, .string ⟨#[]⟩, .int .i64 0, .int .i64 0, .int .i64 0, .string ⟨#[]⟩, .int .i64 0, .int .i64 0] 83) = X) := ⟨_, Lib.hid rfl⟩
      obtain ⟨b3, Hb2⟩ : ∃ b, Hid (V0.heap.size = b) := ⟨_, Lib.hid rfl⟩
      have hb2 : Below V0.heap.size V0 W8 := by rw [← HW2.out]; exact (by repeat' (first | (with_reducible exact Below.refl _ _) | (with_reducible assumption) | (with_reducible refine Below.alloc ?_ ?_ _) | (with_reducible refine below_drewN ?_ _) | (with_reducible refine Below.drew ?_) | (with_reducible refine Below.setCell ?_ ?_ _) | go_size))
      have F3 : Hid (Blk W8 b3 83 zrec0 ∧ w.heap.size ≤ b3) := Lib.hid (by rw [← HW2.out, ← Hb2.out]; exact ⟨Blk.new_at rfl, hB.size⟩)
      replace hB : Below w.heap.size w W8 := below_to hB hb2
      replace hBs := hB.size
      rw [HW2.out, Hb2.out]
      clear HW2 Hb2 hb2
      refine HW.solo (i := 5) rfl (by kernel_rfl) (by kernel_rfl) ?_
      intro K hK
      go_simp
      refine hK _ _ (by repeat' (first | (with_reducible exact Below.refl _ _) | (with_reducible assumption) | (with_reducible refine Below.alloc ?_ ?_ _) | (with_reducible refine below_drewN ?_ _) | (with_reducible refine Below.drew ?_) | (with_reducible refine Below.setCell ?_ ?_ _) | go_size)) ?_
      clear hK K
      obtain ⟨W9, HW2⟩ : ∃ X, Hid (W8.alloc (.cells #[] 3) = X) := ⟨_, Lib.hid rfl⟩
      obtain ⟨b5, Hb2⟩ : ∃ b, Hid (W8.heap.size = b) := ⟨_, Lib.hid rfl⟩
      have hb2 : Below W8.heap.size W8 W9 := by rw [← HW2.out]; exact (by repeat' (first | (with_reducible exact Below.refl _ _) | (with_reducible assumption) | (with_reducible refine Below.alloc ?_ ?_ _) | (with_reducible refine below_drewN ?_ _) | (with_reducible refine Below.drew ?_) | (with_reducible refine Below.setCell ?_ ?_ _) | go_size))
      replace F3 : Hid (Blk W9 b3 83 zrec0 ∧ w.heap.size ≤ b3) := Lib.hid (⟨F3.out.1.below hb2 F3.out.1.lt, F3.out.2⟩)
      have F5 : Hid (Blk W9 b5 3 #[] ∧ w.heap.size ≤ b5) := Lib.hid (by rw [← HW2.out, ← Hb2.out]; exact ⟨Blk.new_at rfl, hB.size⟩)
      replace hB : Below w.heap.size w W9 := below_to hB hb2
      replace hBs := hB.size
      rw [HW2.out, Hb2.out]
      clear HW2 Hb2 hb2
      refine HW.solo (i := 10) rfl (by kernel_rfl) (by kernel_rfl) ?_
      intro K hK
      refine wp_append_nil (.tmp 12) (.tmp 16) _ rfl 0 3 i0 1 Tryz.underlying89 hi0 (.slice (some ⟨b5, 0, none⟩) 0 0) 0 [] rfl (own_of_blk F5.out.1 0 1 0 0 (Nat.zero_le _) rfl (Nat.le_refl _) (Nat.zero_le _)) 0 rfl ?_
      refine hK _ _ hB ?_
      clear hK K
      refine HW.solo (i := 11) rfl (by kernel_rfl) (by kernel_rfl) ?_
      intro K hK
      go_simp
      go_at_call 148
      refine (only1_any br r A1 A2 m1 c1 m2 c2 _ _ (HR.out.below hB hrl)).mono ?_
      rintro e W10 ⟨rfl, hb2⟩
      replace F3 : Hid (Blk W10 b3 83 zrec0 ∧ w.heap.size ≤ b3) := Lib.hid (⟨F3.out.1.below hb2 F3.out.1.lt, F3.out.2⟩)
      replace F5 : Hid (Blk W10 b5 3 #[] ∧ w.heap.size ≤ b5) := Lib.hid (⟨F5.out.1.below hb2 F5.out.1.lt, F5.out.2⟩)
      replace hB : Below w.heap.size w W10 := below_to hB hb2
      replace hBs := hB.size
      refine hK _ _ hB ?_
      clear hK K
      clear hb2
      (refine HW.q (i := 12) rfl (by kernel_rfl) (fun _ _ _ _ h => h) ?_ ?_; (focus ((try dsimp only); exact (by repeat' (first | (with_reducible exact Below.refl _ _) | (with_reducible assumption) | (with_reducible refine Below.alloc ?_ ?_ _) | (with_reducible refine below_drewN ?_ _) | (with_reducible refine Below.drew ?_) | (with_reducible refine Below.setCell ?_ ?_ _) | go_size)))); intro K hK; go_simp; first | (refine hK _ ?_; clear hK K) | (refine ⟨_, fun _ _ => rfl, hK _ ?_⟩; clear hK K))
      (refine HW.q (i := 13) rfl (by kernel_rfl) (fun _ _ _ _ h => h) ?_ ?_; (focus ((try dsimp only); exact (by repeat' (first | (with_reducible exact Below.refl _ _) | (with_reducible assumption) | (with_reducible refine Below.alloc ?_ ?_ _) | (with_reducible refine below_drewN ?_ _) | (with_reducible refine Below.drew ?_) | (with_reducible refine Below.setCell ?_ ?_ _) | go_size)))); intro K hK; go_simp; first | (refine hK _ ?_; clear hK K) | (refine ⟨_, fun _ _ => rfl, hK _ ?_⟩; clear hK K))
      (refine HW.q (i := 14) rfl (by kernel_rfl) (fun _ _ _ _ h => h) ?_ ?_; (focus ((try dsimp only); exact (by repeat' (first | (with_reducible exact Below.refl _ _) | (with_reducible assumption) | (with_reducible refine Below.alloc ?_ ?_ _) | (with_reducible refine below_drewN ?_ _) | (with_reducible refine Below.drew ?_) | (with_reducible refine Below.setCell ?_ ?_ _) | go_size)))); intro K hK; go_simp; first | (refine hK _ ?_; clear hK K) | (refine ⟨_, fun _ _ => rfl, hK _ ?_⟩; clear hK K))
      (refine HW.q (i := 16) rfl (by kernel_rfl) (fun _ _ _ _ h => h) ?_ ?_; (focus ((try dsimp only); exact (by repeat' (first | (with_reducible exact Below.refl _ _) | (with_reducible assumption) | (with_reducible refine Below.alloc ?_ ?_ _) | (with_reducible refine below_drewN ?_ _) | (with_reducible refine Below.drew ?_) | (with_reducible refine Below.setCell ?_ ?_ _) | go_size)))); intro K hK; go_simp; first | (refine hK _ ?_; clear hK K) | (refine ⟨_, fun _ _ => rfl, hK _ ?_⟩; clear hK K))
      refine HW.lst #[true, true, true, true, true, true, true, true, true, true, true, true, true, true, true, true, true, false] (by kernel_rfl) ?_
      have HZ := Lib.hid (And.intro F5.out (And.intro F3.out hB))
      clear hB hBs F5 F3
      revert HZ
      revert W10
      revert b3
      revert b5
      exact key.out
  intro b5 b3 W HZ
  obtain ⟨hF5, hF3, hB⟩ := HZ.out
  clear HZ
  have hBs := hB.size
  refine HW.done (by kernel_rfl) ?_
  simp only [List.drop_succ_cons, List.drop_zero]
  have hb3 := hF3.2
  refine wpList_store_mid rfl 83 _ _ rfl b3 0 (recVal r (.slice A1 m1 c1) (.slice A2 m2 c2)) rfl rfl (hF3.1.there 0 15 (by simp [zrec0])) (by kernel_rfl) (rec_all _ _ _ _ _ _ _) ?_
  have hZ := hF3.1.setCs (recVal r (.slice A1 m1 c1) (.slice A2 m2 c2)).toList W 0
  have hb4 : Below w.heap.size w (W.setCells b3 0 (recVal r (.slice A1 m1 c1) (.slice A2 m2 c2)).toList) := below_setCs (g := b3) (B := w.heap.size) _ _ _ hB hb3
  obtain ⟨V, HV⟩ : ∃ V, Hid (W.setCells b3 0 (recVal r (.slice A1 m1 c1) (.slice A2 m2 c2)).toList = V) := ⟨_, Lib.hid rfl⟩
  rw [HV.out] at hZ hb4 ⊢
  simp only [recVal, zrec0, setN, List.set_cons_zero, List.set_cons_succ] at hZ
  have HZ2 := Lib.hid (show Blk V b3 83 (recVal r (.slice A1 m1 c1) (.slice A2 m2 c2)) from hZ)
  have HIV := Lib.hid (HI.out.below hb4 hlt)
  clear HV hZ hcI hF5 hF3 hB
  have hcV := fun i => HIV.out.cell i
  simp only [instC, onlyFn] at hcV
  have hlV := HIV.out.lt
  go_wp2_with fail
  go_loop [26] (fun i => i = .int .i64 0) (fun _ => 0)
  case atStart => rfl
  case round =>
    obtain rfl := hrel
    go_wp2_with (first
      | (refine wpList_load_arr rfl 83 _ rfl b3 0 rfl (recVal r (.slice A1 m1 c1) (.slice A2 m2 c2)) _ HZ2.out.rangeArr Tryz.underlying83 rfl (by kernel_rfl) ?_)
      | (refine wpList_store_mid rfl 83 _ _ rfl bi 8 (recVal r (.slice A1 m1 c1) (.slice A2 m2 c2)) rfl rfl (HIV.out.there 8 15 (by simp [instC])) (by kernel_rfl) (rec_all _ _ _ _ _ _ _) ?_
         have hI2 := HIV.out.setCs (recVal r (.slice A1 m1 c1) (.slice A2 m2 c2)).toList V 8
         have hF2 : Fr [bi] V (V.setCells bi 8 (recVal r (.slice A1 m1 c1) (.slice A2 m2 c2)).toList) := Fr.setCs _ _ _ (Fr.refl _ _) (.inl (by simp))
         obtain ⟨V2, HV2⟩ : ∃ V2, Hid (V.setCells bi 8 (recVal r (.slice A1 m1 c1) (.slice A2 m2 c2)).toList = V2) := ⟨_, Lib.hid rfl⟩
         rw [HV2.out] at hI2 hF2 ⊢
         simp only [recVal, instC, setN, Nat.reduceAdd, List.set_cons_zero, List.set_cons_succ] at hI2
         have HI2 := Lib.hid (show Blk V2 bi 257 (instC pn os og 0 (onlyFn br) 0 (.slice none 0 0) (.slice none 0 0) r (.slice A1 m1 c1) (.slice A2 m2 c2) (.slice none 0 0) 0 false .nilIface) from hI2)
         have HF2 := Lib.hid hF2
         clear HV2 hI2 hF2 hcV
         have hcV := fun i => HI2.out.cell i
         have hfV := fun i => HI2.out.frozen i
         simp only [instC, onlyFn] at hcV
         have hl2 := HI2.out.lt))
    have hI3 := HI2.out.sets [(5, .int .i64 1), (24, .int .i64 0), (5, .int .i64 3)]
    simp only [asets, instC, List.setIfInBounds_toArray, List.set_cons_succ, List.set_cons_zero] at hI3
    refine bp_name (wset bi [(5, .int .i64 1), (24, .int .i64 0), (5, .int .i64 3)] V2) rfl ?_
    intro V3 HV3
    have hF3 : Fr [bi] V2 V3 := by rw [← HV3.out]; exact Fr.sets bi _ V2
    rw [HV3.out] at hI3
    have hFr : Fr [bi] w V3 := (Fr.of_below hb4 [bi]).trans (HF2.out.trans hF3)
    go_end0
    exact ⟨⟨_, rfl⟩, hI3, hFr⟩
end Go.Proofs.YthidclcliflhkaaGreat
end
section
open Go Go.RowKit
namespace Go.Proofs.YthidclcliflhkaaGreat
open Rl (keyOk)

def callOk (kind : Int) (key val : ByteArray) : Bool := decide (1 ≤ kind) && decide (kind ≤ 5) && keyOk key && (decide (kind = 1) || decide (kind = 5) || decide (val.size ≤ 16))
theorem ref_right (k : ByteArray) (w : World) (hk : k.size ≤ maxLen) : Calls Tryz.prog 22 #[.string k] w fun e w' => e = .returned (.bool (keyOk k)) ∧ ∃ n, w' = w.drewN n := by
  by_cases h1 : 1 ≤ k.size
  · by_cases h2 : k.size ≤ 16
    · go_enter Tryz.func22, Tryz.ntmps22
      go_wp2
      go_ret
      exact ⟨congrArg (fun b => Ending.returned (Value.bool b)) (by first | (simp [keyOk, h1, h2]; done) | (simp [keyOk, h1, h2]; omega) | (simp [keyOk, h1, h2]; intros; omega)), 0, rfl⟩
    · go_enter Tryz.func22, Tryz.ntmps22
      go_wp2
      go_ret
      exact ⟨congrArg (fun b => Ending.returned (Value.bool b)) (by first | (simp [keyOk, h2]; done) | (simp [keyOk, h2]; omega) | (simp [keyOk, h2]; intros; omega)), 0, rfl⟩
  · go_enter Tryz.func22, Tryz.ntmps22
    go_wp2
    go_ret
    exact ⟨congrArg (fun b => Ending.returned (Value.bool b)) (by first | (simp [keyOk, h1]; done) | (simp [keyOk, h1]; omega) | (simp [keyOk, h1]; intros; omega)), 0, rfl⟩
set_option maxRecDepth 100000 in
theorem tright_any (kind : Int) (key val : ByteArray) (w : World) (hk : key.size ≤ maxLen) (hv : val.size ≤ maxLen) :
    Calls Tryz.prog 13 #[.agg #[.int .i64 kind, .string key, .string val]] w (RetB (.bool (callOk kind key val)) w) := by
  by_cases h1 : kind < 1
  · have h1' : ¬ (1 ≤ kind) := by omega
    go_enter Tryz.func13, Tryz.ntmps13
    go_wp2_with fail
    go_ret
    exact ⟨congrArg (fun b => Ending.returned (Value.bool b)) (by first | (simp [callOk, h1']; done) | (simp [callOk, h1']; omega) | (simp [callOk, h1']; intros; omega)), (by repeat' (first | (with_reducible exact Below.refl _ _) | (with_reducible assumption) | (with_reducible refine Below.alloc ?_ ?_ _) | (with_reducible refine below_drewN ?_ _) | (with_reducible refine Below.drew ?_) | (with_reducible refine Below.setCell ?_ ?_ _) | go_size))⟩
  by_cases h2 : 5 < kind
  · have h2' : ¬ (kind ≤ 5) := by omega
    have h1' : 1 ≤ kind := by omega
    go_enter Tryz.func13, Tryz.ntmps13
    go_wp2_with fail
    go_ret
    exact ⟨congrArg (fun b => Ending.returned (Value.bool b)) (by first | (simp [callOk, h2']; done) | (simp [callOk, h2']; omega) | (simp [callOk, h2']; intros; omega)), (by repeat' (first | (with_reducible exact Below.refl _ _) | (with_reducible assumption) | (with_reducible refine Below.alloc ?_ ?_ _) | (with_reducible refine below_drewN ?_ _) | (with_reducible refine Below.drew ?_) | (with_reducible refine Below.setCell ?_ ?_ _) | go_size))⟩
  have h1' : 1 ≤ kind := by omega
  have h2' : kind ≤ 5 := by omega
  cases hky : keyOk key
  · have HK := Lib.hid hky
    clear hky
    go_enter Tryz.func13, Tryz.ntmps13
    go_wp2_with (go_at_call 21
                 refine (right_any key _ hk).mono ?_
                 rintro e w1 ⟨rfl, n1, rfl⟩
                 rw [HK.out])
    go_ret
    exact ⟨congrArg (fun b => Ending.returned (Value.bool b)) (by first | (simp [callOk, HK.out]; done) | (simp [callOk, HK.out]; omega) | (simp [callOk, HK.out]; intros; omega)), (by repeat' (first | (with_reducible exact Below.refl _ _) | (with_reducible assumption) | (with_reducible refine Below.alloc ?_ ?_ _) | (with_reducible refine below_drewN ?_ _) | (with_reducible refine Below.drew ?_) | (with_reducible refine Below.setCell ?_ ?_ _) | go_size))⟩
  · have HK := Lib.hid hky
    clear hky
    by_cases h3 : kind = 1
    · go_enter Tryz.func13, Tryz.ntmps13
      go_wp2_with (go_at_call 21
                   refine (right_any key _ hk).mono ?_
                   rintro e w1 ⟨rfl, n1, rfl⟩
                   rw [HK.out])
      go_ret
      exact ⟨congrArg (fun b => Ending.returned (Value.bool b)) (by first | (simp [callOk, HK.out, h3]; done) | (simp [callOk, HK.out, h3]; omega) | (simp [callOk, HK.out, h3]; intros; omega)), (by repeat' (first | (with_reducible exact Below.refl _ _) | (with_reducible assumption) | (with_reducible refine Below.alloc ?_ ?_ _) | (with_reducible refine below_drewN ?_ _) | (with_reducible refine Below.drew ?_) | (with_reducible refine Below.setCell ?_ ?_ _) | go_size))⟩
    by_cases h4 : kind = 5
    · go_enter Tryz.func13, Tryz.ntmps13
      go_wp2_with (go_at_call 21
                   refine (right_any key _ hk).mono ?_
                   rintro e w1 ⟨rfl, n1, rfl⟩
                   rw [HK.out])
      go_ret
      exact ⟨congrArg (fun b => Ending.returned (Value.bool b)) (by first | (simp [callOk, HK.out, h4]; done) | (simp [callOk, HK.out, h4]; omega) | (simp [callOk, HK.out, h4]; intros; omega)), (by repeat' (first | (with_reducible exact Below.refl _ _) | (with_reducible assumption) | (with_reducible refine Below.alloc ?_ ?_ _) | (with_reducible refine below_drewN ?_ _) | (with_reducible refine Below.drew ?_) | (with_reducible refine Below.setCell ?_ ?_ _) | go_size))⟩
    by_cases h5 : val.size ≤ 16
    · go_enter Tryz.func13, Tryz.ntmps13
      go_wp2_with (go_at_call 21
                   refine (right_any key _ hk).mono ?_
                   rintro e w1 ⟨rfl, n1, rfl⟩
                   rw [HK.out])
      go_ret
      exact ⟨congrArg (fun b => Ending.returned (Value.bool b)) (by first | (simp [callOk, HK.out, h5, h1', h2']; done) | (simp [callOk, HK.out, h5, h1', h2']; omega) | (simp [callOk, HK.out, h5, h1', h2']; intros; omega)), (by repeat' (first | (with_reducible exact Below.refl _ _) | (with_reducible assumption) | (with_reducible refine Below.alloc ?_ ?_ _) | (with_reducible refine below_drewN ?_ _) | (with_reducible refine Below.drew ?_) | (with_reducible refine Below.setCell ?_ ?_ _) | go_size))⟩
    · go_enter Tryz.func13, Tryz.ntmps13
      go_wp2_with (go_at_call 21
                   refine (right_any key _ hk).mono ?_
                   rintro e w1 ⟨rfl, n1, rfl⟩
                   rw [HK.out])
      go_ret
      exact ⟨congrArg (fun b => Ending.returned (Value.bool b)) (by first | (simp [callOk, HK.out, h3, h4, h5]; done) | (simp [callOk, HK.out, h3, h4, h5]; omega) | (simp [callOk, HK.out, h3, h4, h5]; intros; omega)), (by repeat' (first | (with_reducible exact Below.refl _ _) | (with_reducible assumption) | (with_reducible refine Below.alloc ?_ ?_ _) | (with_reducible refine below_drewN ?_ _) | (with_reducible refine Below.drew ?_) | (with_reducible refine Below.setCell ?_ ?_ _) | go_size))⟩
end Go.Proofs.YthidclcliflhkaaGreat
end
