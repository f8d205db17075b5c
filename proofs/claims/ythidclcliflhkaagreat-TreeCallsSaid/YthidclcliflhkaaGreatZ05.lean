/- What the arena's functions compute: contracts, the second part: New, Alloc. What the arena's functions compute: contracts, the third part: at, Load. What the table's functions compute: contracts. What the clock's functions compute: contracts. -/
import Derived.Test.YthidclcliflhkaaGreatZ04
import Derived.Deep.MidRow
section
open Go Go.RowKit
namespace Go.Proofs.YthidclcliflhkaaGreat

theorem blk_of_full {w : World} {base : Nat} {e : TypeId} {size n g : Nat} {xs : List Value} (h : w.ownsRow base e size (.slice (some ⟨g, 0, none⟩) n n) n xs) : Blk w g e xs.toArray := by
  rcases h.2 with ⟨h0, _⟩ | ⟨g', cap, cur, h0, _, hh, _, _, hs, ht⟩
  · cases h0
  · injection h0 with h1 _ h3
    injection h1 with h1
    injection h1 with h1
    subst h1; subst h3
    rw [List.take_of_length_le (by simp [hs])] at ht
    unfold Blk
    rw [hh, ← ht]
theorem made_flat {α : Type} (zc : Array Value) (k n : Nat) (hk : zc.size = k) (h0 : 0 < k) (f : α → List Value) (x : α) (hf : f x = zc.toList) (hl : ∀ a, (f a).length = k) : (madeCells zc (n * k)).toList = (List.replicate n x).flatMap f := by
  apply List.ext_getElem?
  intro j
  by_cases hj : j < n * k
  · have hm : j % k < k := Nat.mod_lt _ h0
    have hd : j / k < n := (Nat.div_lt_iff_lt_mul h0).2 hj
    have e1 : ((List.replicate n x).flatMap f)[j]? = (f x)[j % k]? := by
      have := flat_get hl (List.replicate n x) (j / k) (j % k) (by simpa using hd) hm
      rw [Nat.div_add_mod' j k] at this
      simpa using this
    rw [e1, hf]
    simp [madeCells, hj, hk, hm]
  · rw [List.getElem?_eq_none (by simp [madeCells]; omega), List.getElem?_eq_none (by rw [flat_length hl]; simp; omega)]
theorem slot_info : (Tryz.prog.info? 120).map (fun i => (i.zero, i.size, i.bytes)) = some (some (.agg (slotCells slot0).toArray), 17, 208) := by kernel_rfl
theorem slot_cell {w : World} {bs : Nat} {S : List SlotV} (h : Blk w bs 120 (S.flatMap slotCells).toArray) (k : Nat) (hk : k < S.length) (j : Nat) (hj : j < 17) : w.cell? ⟨bs, k * 17 + j, none⟩ = (slotCells S[k])[j]? := by
  rw [h.cell]; simpa using flat_get slotCells_length S k j hk hj
set_option maxRecDepth 100000 in
theorem anew_any (n : Nat) (last : Int) (w : World) (h1 : 1 ≤ n) (h2 : n ≤ 4096) (h3 : 1 ≤ last) (h4 : last ≤ 1099511627776) :
    Calls Tryz.prog 24 #[.int .i64 n, .int .i64 last] w fun e w' => ∃ ba bs, e = .returned (.pointer (some ⟨ba, 0, none⟩)) ∧ ArenaAt w' ba bs (List.replicate n slot0) last ∧ w.heap.size ≤ ba ∧ w.heap.size ≤ bs ∧ Below w.heap.size w w' := by
  obtain ⟨i0, hi0, hz0, hz1, hz2⟩ := info_parts slot_info
  go_enter Tryz.func24, Tryz.ntmps24
  go_wp2_with (at_make
               refine wpList_make_full _ rfl _ _ _ rfl w.heap.size 120 i0 _ 17 Tryz.underlying109 hi0 hz0 hz1 .i64 .i64 _ _ n rfl rfl rfl rfl ?_ ?_ (Nat.le_refl _) ?_
               · rw [hz2]; omega
               · unfold maxLen; omega
               intro w1 hown hg)
  go_ret
  have hb1 : Below w.heap.size w w1 := Below.grown (Below.refl _ _) hg (Nat.le_refl _) (by simp)
  have hs := hown.lt w.heap.size rfl
  refine ⟨w1.heap.size, w.heap.size, rfl, ⟨?_, ?_, ?_⟩, hb1.size, Nat.le_refl _, hb1.alloc hb1.size _⟩
  · rw [List.length_replicate]; exact Blk.new _ _ _
  · have := blk_of_full hown
    have e : (madeCells (Value.agg (slotCells slot0).toArray).cells (n * 17)).toList = _ := made_flat _ 17 n rfl (by omega) slotCells slot0 rfl slotCells_length
    rw [e] at this
    exact this.alloc _
  · intro x hx
    obtain rfl := List.eq_of_mem_replicate hx
    exact ⟨OwnV.nil _ _, OwnE.nil _ _⟩
theorem freeOf_one {w : World} {g : Nat} {t t' : TypeId} {cs : Array Value} (h : Blk w g t cs) (hne : t' ≠ t) : FreeOf w [g] t' := by
  intro g' hg cs' fr e
  obtain rfl : g' = g := by simpa using hg
  unfold Blk at h
  rw [e] at h
  injection h with h
  injection h with _ h3
  exact hne h3
theorem slot_one (x : SlotV) (h1 : x.rv.oneCell' = true) (h2 : x.ev.oneCell' = true) : (slotCells x).toArray.all (·.oneCell') = true := by
  simp [slotCells, recVal, h1, h2]
  and_intros <;> rfl
theorem setN_slot (S : List SlotV) (k : Nat) (x : SlotV) (h : k < S.length) : setN (S.flatMap slotCells) (k * 17) (slotCells x) = (S.set k x).flatMap slotCells := setN_flat slotCells_length S k x h
set_option maxRecDepth 100000 in
set_option maxHeartbeats 1000000 in
theorem aalloc_any (ba bs : Nat) (S : List SlotV) (last : Int) (r : Rl.Rec) (rv ev : Value) (k0 : Nat) (w : World) (hA : ArenaAt w ba bs S last) (hr : RecAt w r rv ev) (hok : RecOk r) (hk : k0 < S.length) (hlen : S.length ≤ 4096)
    (hu : ∀ k (h : k < k0), S[k].s.used = true) (hk0 : S[k0].s.used = false) (hg0 : S[k0].s.gen < last) (hlast : last ≤ 1099511627776) (hg1 : 0 ≤ S[k0].s.gen) :
    Calls Tryz.prog 27 #[.pointer (some ⟨ba, 0, none⟩), .agg (recVal r rv ev)] w fun e w' => ∃ rv' ev', e = .returned (.tuple #[.agg #[.int .i64 (k0 + 1), .int .i64 (S[k0].s.gen + 1)], .nilIface]) ∧
      ArenaAt w' ba bs (S.set k0 ⟨⟨S[k0].s.gen + 1, true, r⟩, rv', ev'⟩) last ∧ Fr [bs] w w' := by
  have hba := hA.a.lt
  have hbs := hA.s.lt
  have hne := Blk.ne_ hA.a hA.s (by decide)
  go_enter Tryz.func27, Tryz.ntmps27
  have hcw := fun i => hA.a.cell i
  have HA := Lib.hid hA
  have HR := Lib.hid hr
  clear hA hr
  go_wp2_with fail
  refine wp_name ?_
  intro V HV
  clear hcw
  have hbV : Below w.heap.size w V := by rw [← HV.out]; exact (by repeat' (first | (with_reducible exact Below.refl _ _) | (with_reducible assumption) | (with_reducible refine Below.alloc ?_ ?_ _) | (with_reducible refine below_drewN ?_ _) | (with_reducible refine Below.drew ?_) | (with_reducible refine Below.setCell ?_ ?_ _) | go_size))
  have hVs : w.heap.size + 1 + 1 = V.heap.size := by rw [← HV.out]; simp
  have hAV : Hid (ArenaAt V ba bs S last) := Lib.hid (HA.out.fr (Fr.of_below hbV []) (by simp) (by simp) (by intro g hg; simp at hg) (by intro g hg; simp at hg))
  have hRV : Hid (Blk V w.heap.size 83 (recVal r rv ev)) := Lib.hid (by rw [← HV.out]; exact Blk.alloc (Blk.new_at rfl) _)
  have hXV : Hid (Blk V (w.heap.size + 1) 55 #[.int .i64 0, .int .i64 0]) := Lib.hid (by rw [← HV.out]; exact Blk.new_at (by simp))
  have hcA := fun i => hAV.out.a.cell i
  have hcR := fun i => hRV.out.cell i
  simp only [recVal] at hcR
  clear HV
  go_loopw [19] (fun i wr => ∃ k : Nat, k ≤ k0 ∧ i = .int .i64 k ∧ wr = V) (fun i _ => S.length - (intOf i).toNat)
  case atStart => exact ⟨0, by omega, rfl, rfl⟩
  case round =>
    obtain ⟨k, hkk, rfl, rfl⟩ := hrel
    by_cases hlt : k < k0
    · have huk := hu k hlt
      have q1 := slot_cell hAV.out.s k (by omega) 1 (by omega)
      simp only [slotCells, List.getElem?_cons_succ, List.getElem?_cons_zero, huk] at q1
      go_wp2_with fail
      exact ⟨⟨k + 1, by omega, by go_num, trivial⟩, by simp [intOf]; omega⟩
    · obtain rfl : k = k0 := by omega
      have q0 := slot_cell hAV.out.s k (by omega) 0 (by omega)
      have q1 := slot_cell hAV.out.s k (by omega) 1 (by omega)
      simp only [slotCells, List.getElem?_cons_succ, List.getElem?_cons_zero, hk0, Nat.add_zero] at q0 q1
      have hwr : IntKind.i64.wrap (S[k].s.gen + 1) = S[k].s.gen + 1 := IntWalk.i64_in _ (by omega)
      have hwr2 : IntKind.i64.wrap ((k : Int) + 1) = (k : Int) + 1 := IntWalk.i64_in _ (by omega)
      have hne2 : ¬ S[k].s.gen = last := by omega
      go_wp2_with fail
      go_region
      go_wp2_with fail
      have hsA : ba < wr.heap.size := by omega
      have hsB : bs < wr.heap.size := by omega
      have hsC : w.heap.size < wr.heap.size := by omega
      have hsD : w.heap.size + 1 < wr.heap.size := by omega
      have hfS := fun i => hAV.out.s.frozen i
      have hcS := fun j hj => slot_cell hAV.out.s k hk j hj
      simp only [slotCells, recVal] at hcS
      refine wp_region_head 10 (fun w' => Below wr.heap.size wr w') (by kernel_rfl) (by kernel_rfl) ?_
      (refine HW.q (i := 0) rfl (by kernel_rfl) (fun _ _ _ _ h => h) ?_ ?_; (focus ((try dsimp only); exact (by repeat' (first | (with_reducible exact Below.refl _ _) | (with_reducible assumption) | (with_reducible refine Below.alloc ?_ ?_ _) | (with_reducible refine below_drewN ?_ _) | (with_reducible refine Below.drew ?_) | (with_reducible refine Below.setCell ?_ ?_ _) | go_size)))); intro K hK; go_simp; first | (refine hK _ ?_; clear hK K) | (refine ⟨_, fun _ _ => rfl, hK _ ?_⟩; clear hK K))
      (refine HW.q (i := 1) rfl (by kernel_rfl) (fun _ _ _ _ h => h) ?_ ?_; (focus ((try dsimp only); exact (by repeat' (first | (with_reducible exact Below.refl _ _) | (with_reducible assumption) | (with_reducible refine Below.alloc ?_ ?_ _) | (with_reducible refine below_drewN ?_ _) | (with_reducible refine Below.drew ?_) | (with_reducible refine Below.setCell ?_ ?_ _) | go_size)))); intro K hK; go_simp; first | (refine hK _ ?_; clear hK K) | (refine ⟨_, fun _ _ => rfl, hK _ ?_⟩; clear hK K))
      (refine HW.q (i := 2) rfl (by kernel_rfl) (fun _ _ _ _ h => h) ?_ ?_; (focus ((try dsimp only); exact (by repeat' (first | (with_reducible exact Below.refl _ _) | (with_reducible assumption) | (with_reducible refine Below.alloc ?_ ?_ _) | (with_reducible refine below_drewN ?_ _) | (with_reducible refine Below.drew ?_) | (with_reducible refine Below.setCell ?_ ?_ _) | go_size)))); intro K hK; go_simp; first | (refine hK _ ?_; clear hK K) | (refine ⟨_, fun _ _ => rfl, hK _ ?_⟩; clear hK K))
      (refine HW.q (i := 3) rfl (by kernel_rfl) (fun _ _ _ _ h => h) ?_ ?_; (focus ((try dsimp only); exact (by repeat' (first | (with_reducible exact Below.refl _ _) | (with_reducible assumption) | (with_reducible refine Below.alloc ?_ ?_ _) | (with_reducible refine below_drewN ?_ _) | (with_reducible refine Below.drew ?_) | (with_reducible refine Below.setCell ?_ ?_ _) | go_size)))); intro K hK; go_simp; first | (refine hK _ ?_; clear hK K) | (refine ⟨_, fun _ _ => rfl, hK _ ?_⟩; clear hK K))
      (refine HW.q (i := 4) rfl (by kernel_rfl) (fun _ _ _ _ h => h) ?_ ?_; (focus ((try dsimp only); exact (by repeat' (first | (with_reducible exact Below.refl _ _) | (with_reducible assumption) | (with_reducible refine Below.alloc ?_ ?_ _) | (with_reducible refine below_drewN ?_ _) | (with_reducible refine Below.drew ?_) | (with_reducible refine Below.setCell ?_ ?_ _) | go_size)))); intro K hK; go_simp; apply Exists.intro; refine ⟨fun w2 hw2 => ?_, hK _ ?_⟩; (focus (obtain ⟨hc2, hf2⟩ := bcell hw2; go_simp; first | done | rfl)); clear hK K)
      (refine HW.q (i := 5) rfl (by kernel_rfl) (fun _ _ _ _ h => h) ?_ ?_; (focus ((try dsimp only); exact (by repeat' (first | (with_reducible exact Below.refl _ _) | (with_reducible assumption) | (with_reducible refine Below.alloc ?_ ?_ _) | (with_reducible refine below_drewN ?_ _) | (with_reducible refine Below.drew ?_) | (with_reducible refine Below.setCell ?_ ?_ _) | go_size)))); intro K hK; go_simp; first | (refine hK _ ?_; clear hK K) | (refine ⟨_, fun _ _ => rfl, hK _ ?_⟩; clear hK K))
      (refine HW.q (i := 6) rfl (by kernel_rfl) (fun _ _ _ _ h => h) ?_ ?_; (focus ((try dsimp only); exact (by repeat' (first | (with_reducible exact Below.refl _ _) | (with_reducible assumption) | (with_reducible refine Below.alloc ?_ ?_ _) | (with_reducible refine below_drewN ?_ _) | (with_reducible refine Below.drew ?_) | (with_reducible refine Below.setCell ?_ ?_ _) | go_size)))); intro K hK; go_simp; apply Exists.intro; refine ⟨fun w2 hw2 => ?_, hK _ ?_⟩; (focus (obtain ⟨hc2, hf2⟩ := bcell hw2; go_simp; first | done | rfl)); clear hK K)
      (refine HW.solo (i := 7) rfl (by kernel_rfl) (by kernel_rfl) ?_; intro K hK; go_simp)
      go_at_call 46
      refine (clone_any r rv ev _ (HR.out.keep (by repeat' (first | (with_reducible exact Below.refl _ _) | (with_reducible assumption) | (with_reducible refine Below.alloc ?_ ?_ _) | (with_reducible refine below_drewN ?_ _) | (with_reducible refine Below.drew ?_) | (with_reducible refine Below.setCell ?_ ?_ _) | go_size))) hok).mono ?_
      rintro e w1 ⟨rv1, ev1, rfl, hrv1, hev1, hb1⟩
      have hb1 : Below wr.heap.size wr w1 := ⟨hb1.os, hb1.tape, hb1.output, hb1.size, hb1.block⟩
      obtain ⟨A1, c1, rfl, hle1, ho1⟩ := hrv1
      obtain ⟨A2, c2, rfl, hle2, ho2⟩ := hev1
      refine hK _ _ hb1 ?_
      clear hK K
      simp only [recVal]
      (refine HW.q (i := 8) rfl (by kernel_rfl) (fun _ _ _ _ h => h) ?_ ?_; (focus ((try dsimp only); exact (by repeat' (first | (with_reducible exact Below.refl _ _) | (with_reducible assumption) | (with_reducible refine Below.alloc ?_ ?_ _) | (with_reducible refine below_drewN ?_ _) | (with_reducible refine Below.drew ?_) | (with_reducible refine Below.setCell ?_ ?_ _) | go_size)))); intro K hK; go_simp; first | (refine hK _ ?_; clear hK K) | (refine ⟨_, fun _ _ => rfl, hK _ ?_⟩; clear hK K))
      (refine HW.q (i := 9) rfl (by kernel_rfl) (fun _ _ _ _ h => h) ?_ ?_; (focus ((try dsimp only); exact (by repeat' (first | (with_reducible exact Below.refl _ _) | (with_reducible assumption) | (with_reducible refine Below.alloc ?_ ?_ _) | (with_reducible refine below_drewN ?_ _) | (with_reducible refine Below.drew ?_) | (with_reducible refine Below.setCell ?_ ?_ _) | go_size)))); intro K hK; go_simp; first | (refine hK _ ?_; clear hK K) | (refine ⟨_, fun _ _ => rfl, hK _ ?_⟩; clear hK K))
      refine HW.done (by kernel_rfl) ?_
      simp only [List.drop_succ_cons, List.drop_zero]
      have hS1 := hAV.out.s.below hb1 hsB
      refine wpList_store_mid rfl _ _ _ rfl bs (k * 17) (slotCells ⟨⟨S[k].s.gen + 1, true, r⟩, .slice A1 r.rows.length c1, .slice A2 r.entries.length c2⟩).toArray rfl rfl (hS1.there _ _ ?_) (by kernel_rfl) (slot_one _ rfl rfl) ?_
      · simp [flat_length slotCells_length, slotCells_length]; omega
      have hS2 := hS1.setCs (slotCells ⟨⟨S[k].s.gen + 1, true, r⟩, .slice A1 r.rows.length c1, .slice A2 r.entries.length c2⟩) w1 (k * 17)
      rw [setN_slot S k _ hk] at hS2
      have hA2 := (hAV.out.a.below hb1 hsA).farCs hne (slotCells ⟨⟨S[k].s.gen + 1, true, r⟩, .slice A1 r.rows.length c1, .slice A2 r.entries.length c2⟩) w1 (k * 17)
      have hX2 := (hXV.out.below hb1 hsD).farCs (g' := bs) (by omega) (slotCells ⟨⟨S[k].s.gen + 1, true, r⟩, .slice A1 r.rows.length c1, .slice A2 r.entries.length c2⟩) w1 (k * 17)
      have hF2 : Fr [bs] w (w1.setCells bs (k * 17) (slotCells ⟨⟨S[k].s.gen + 1, true, r⟩, .slice A1 r.rows.length c1, .slice A2 r.entries.length c2⟩)) :=
        Fr.setCs _ _ _ (Fr.of_below (below_to hbV hb1) _) (.inl (by simp))
      have ho1 := ownsRow_setCs (g := bs) (slotCells ⟨⟨S[k].s.gen + 1, true, r⟩, .slice A1 r.rows.length c1, .slice A2 r.entries.length c2⟩) w1 (k * 17) ho1 hsB
      have ho2 := ownsRow_setCs (g := bs) (slotCells ⟨⟨S[k].s.gen + 1, true, r⟩, .slice A1 r.rows.length c1, .slice A2 r.entries.length c2⟩) w1 (k * 17) ho2 hsB
      obtain ⟨V2, HV2⟩ : ∃ V2, Hid (w1.setCells bs (k * 17) (slotCells ⟨⟨S[k].s.gen + 1, true, r⟩, .slice A1 r.rows.length c1, .slice A2 r.entries.length c2⟩) = V2) := ⟨_, Lib.hid rfl⟩
      rw [HV2.out] at hS2 hA2 hX2 hF2 ho1 ho2 ⊢
      clear HV2 hcA hcR hcS q0 q1 hfS
      have hk' : k < (S.set k ⟨⟨S[k].s.gen + 1, true, r⟩, .slice A1 r.rows.length c1, .slice A2 r.entries.length c2⟩).length := by simpa using hk
      have d0 := slot_cell hS2 k hk' 0 (by omega)
      simp only [List.getElem_set_self, slotCells, List.getElem?_cons_zero, Nat.add_zero] at d0
      have hcX := fun i => hX2.cell i
      have hfX := fun i => hX2.frozen i
      have H2 := Lib.hid (And.intro hS2 (And.intro hA2 (And.intro hX2 (And.intro hF2 (And.intro ho1 ho2)))))
      clear hS2 hA2 hX2 hF2 ho1 ho2
      go_wp2_with fail
      have hY := (H2.out.2.2.1.set_ 0 (.int .i64 (k + 1))).set_ 1 (.int .i64 (S[k].s.gen + 1))
      have hcc := fun i => Blk.cell hY i
      obtain ⟨hS2, hA2, hX2, hF2, ho1, ho2⟩ := H2.out
      have hne3 : bs ≠ w.heap.size + 1 := by omega
      have hne4 : ba ≠ w.heap.size + 1 := by omega
      have hF3 : Fr [bs] w ((V2.setCell ⟨w.heap.size + 1, 0, none⟩ (.int .i64 (k + 1))).setCell ⟨w.heap.size + 1, 1, none⟩ (.int .i64 (S[k].s.gen + 1))) := (hF2.setCell (p := ⟨w.heap.size + 1, 0, none⟩) (.inr (by simp)) _).setCell (p := ⟨w.heap.size + 1, 1, none⟩) (.inr (by simp)) _
      refine bodyPost_ret (v := .tuple #[.agg #[.int .i64 (k + 1), .int .i64 (S[k].s.gen + 1)], .nilIface]) ?_ rfl ⟨.slice A1 r.rows.length c1, .slice A2 r.entries.length c2, rfl, ⟨?_, ?_, ?_⟩, hF3⟩
      · simp [results, Tryz.results27, go_sem, hcc]
      · rw [List.length_set]
        exact (hA2.far (p := ⟨w.heap.size + 1, 0, none⟩) hne4 _).far (p := ⟨w.heap.size + 1, 1, none⟩) hne4 _
      · exact (hS2.far (p := ⟨w.heap.size + 1, 0, none⟩) hne3 _).far (p := ⟨w.heap.size + 1, 1, none⟩) hne3 _
      · intro x hx
        rcases List.mem_or_eq_of_mem_set hx with hx | rfl
        · exact (HA.out.recs x hx).fr hF3 (freeOf_one HA.out.s (by decide)) (freeOf_one HA.out.s (by decide))
        · refine ⟨⟨A1, c1, rfl, hle1, ?_⟩, ⟨A2, c2, rfl, hle2, ?_⟩⟩
          · exact ownsRow_base (ownsRow_set (ownsRow_set ho1 (p := ⟨w.heap.size + 1, 0, none⟩) hsD _) (p := ⟨w.heap.size + 1, 1, none⟩) hsD _) (Nat.zero_le _)
          · exact ownsRow_base (ownsRow_set (ownsRow_set ho2 (p := ⟨w.heap.size + 1, 0, none⟩) hsD _) (p := ⟨w.heap.size + 1, 1, none⟩) hsD _) (Nat.zero_le _)
end Go.Proofs.YthidclcliflhkaaGreat
end
section
open Go Go.RowKit
namespace Go.Proofs.YthidclcliflhkaaGreat

set_option maxRecDepth 100000 in
theorem aat_any (ba bs : Nat) (S : List SlotV) (last : Int) (k : Nat) (gen : Int) (w : World) (hA : ArenaAt w ba bs S last) (hk : k < S.length) (hlen : S.length ≤ 4096) (hu : S[k].s.used = true) (hg : S[k].s.gen = gen) :
    Calls Tryz.prog 65 #[.pointer (some ⟨ba, 0, none⟩), .agg #[.int .i64 (k + 1), .int .i64 gen]] w fun e w' => e = .returned (.tuple #[.pointer (some ⟨bs, k * 17, none⟩), .nilIface]) ∧ Below w.heap.size w w' := by
  have hba := hA.a.lt
  have hbs := hA.s.lt
  have hcA := fun i => hA.a.cell i
  have q0 := slot_cell hA.s k hk 0 (by omega)
  have q1 := slot_cell hA.s k hk 1 (by omega)
  simp only [slotCells, List.getElem?_cons_succ, List.getElem?_cons_zero, hu, hg, Nat.add_zero] at q0 q1
  have d1 : decide ((k : Int) + 1 < 1) = false := by simp; omega
  have d2 : decide ((k : Int) + 1 > (S.length : Int)) = false := by simp; omega
  have d3 : decide ((S.length : Int) < (k : Int) + 1) = false := by simp; omega
  have hw1 : IntKind.i64.wrap ((k : Int) + 1 - 1) = (k : Int) := by rw [show (k : Int) + 1 - 1 = k by omega]; exact IntWalk.i64_in _ (by omega)
  have HA := Lib.hid hA
  clear hA
  go_enter Tryz.func65, Tryz.ntmps65
  go_wp2_with fail
  go_quiet (fail)
  go_wp2_with fail
  go_region
  go_wp2_with fail
  go_quiet (fail)
  go_wp2_with fail
  go_ret2
  exact ⟨rfl, (by repeat' (first | (with_reducible exact Below.refl _ _) | (with_reducible assumption) | (with_reducible refine Below.alloc ?_ ?_ _) | (with_reducible refine below_drewN ?_ _) | (with_reducible refine Below.drew ?_) | (with_reducible refine Below.setCell ?_ ?_ _) | go_size))⟩
set_option maxRecDepth 100000 in
theorem aload_any (ba bs : Nat) (S : List SlotV) (last : Int) (k : Nat) (gen : Int) (w : World) (hA : ArenaAt w ba bs S last) (hk : k < S.length) (hlen : S.length ≤ 4096) (hu : S[k].s.used = true) (hg : S[k].s.gen = gen) (hok : RecOk S[k].s.r) :
    Calls Tryz.prog 51 #[.pointer (some ⟨ba, 0, none⟩), .agg #[.int .i64 (k + 1), .int .i64 gen]] w fun e w' => ∃ rv ev, e = .returned (.tuple #[.agg (recVal S[k].s.r rv ev), .nilIface]) ∧
      OwnV w' w.heap.size rv S[k].s.r.rows ∧ OwnE w' w.heap.size ev S[k].s.r.entries ∧ Below w.heap.size w w' := by
  have hba := hA.a.lt
  have hbs := hA.s.lt
  have hcS := fun j hj => slot_cell hA.s k hk j hj
  have hcS2 := fun j (hj : j < 15) => hcS (2 + j) (by omega)
  simp only [← Nat.add_assoc] at hcS2
  simp only [slotCells, recVal] at hcS hcS2
  simp only [Nat.add_comm 2, List.getElem?_cons_succ] at hcS2
  have hc2 := hcS2 0 (by omega)
  simp only [List.getElem?_cons_zero, Nat.add_zero] at hc2
  have HA := Lib.hid hA
  clear hA
  go_enter Tryz.func51, Tryz.ntmps51
  go_wp2_with (go_at_call 65
               refine (aat_any ba bs S last k gen _ (HA.out.fr (Fr.of_below (by repeat' (first | (with_reducible exact Below.refl _ _) | (with_reducible assumption) | (with_reducible refine Below.alloc ?_ ?_ _) | (with_reducible refine below_drewN ?_ _) | (with_reducible refine Below.drew ?_) | (with_reducible refine Below.setCell ?_ ?_ _) | go_size)) []) (by simp) (by simp) (by intro g hg; simp at hg) (by intro g hg; simp at hg)) hk hlen hu hg).mono ?_
               rintro e w1 ⟨rfl, hb1⟩
               have hz : w.heap.size + 1 < w1.heap.size := by have := hb1.size; simp at this; omega
               have hz0 : w.heap.size < w1.heap.size := by omega
               have hZ1 := Lib.hid (Blk.below (Blk.new_at (b := w.heap.size + 1) (by first | (simp; done) | (simp; omega) | omega)) hb1 (by first | (simp; done) | (simp; omega) | omega))
               have hZ0 := Lib.hid (Blk.below (Blk.alloc (Blk.new_at rfl) _) hb1 (by first | (simp; done) | (simp; omega) | omega))
               have hbw : Below w.heap.size w w1 := below_to (by repeat' (first | (with_reducible exact Below.refl _ _) | (with_reducible assumption) | (with_reducible refine Below.alloc ?_ ?_ _) | (with_reducible refine below_drewN ?_ _) | (with_reducible refine Below.drew ?_) | (with_reducible refine Below.setCell ?_ ?_ _) | go_size)) hb1
               obtain ⟨hc1, hf1⟩ := bcell hbw
               clear hb1)
  refine (clone_any S[k].s.r S[k].rv S[k].ev _ ((HA.out.recs _ (List.getElem_mem hk)).keep hbw) hok).mono ?_
  rintro e w2 ⟨rv2, ev2, rfl, ⟨A1, c1, rfl, hle1, ho1⟩, ⟨A2, c2, rfl, hle2, ho2⟩, hb2⟩
  have hZ2 := Lib.hid (hZ1.out.below hb2 hz)
  have hc3 := fun i => hZ2.out.cell i
  have hf3 := fun i => hZ2.out.frozen i
  clear hc1 hf1 hcS hcS2
  simp only [recVal]
  go_wp2_with fail
  have hY := hZ2.out.setCs (recVal S[k].s.r (.slice A1 S[k].s.r.rows.length c1) (.slice A2 S[k].s.r.entries.length c2)).toList w2 0
  simp only [recVal, World.setCells, setN, List.set_cons_zero, List.set_cons_succ, Nat.zero_add, Nat.reduceAdd] at hY
  have hcc := fun i => Blk.cell hY i
  refine bodyPost_ret (v := .tuple #[.agg (recVal S[k].s.r (.slice A1 S[k].s.r.rows.length c1) (.slice A2 S[k].s.r.entries.length c2)), .nilIface]) ?_ rfl ⟨.slice A1 S[k].s.r.rows.length c1, .slice A2 S[k].s.r.entries.length c2, rfl, ⟨A1, c1, rfl, hle1, ?_⟩, ⟨A2, c2, rfl, hle2, ?_⟩, ?_⟩
  · simp [results, Tryz.results51, go_sem, hcc, recVal]
  · exact ownsRow_base (ownsRow_setCs (g := w.heap.size + 1) (recVal S[k].s.r (.slice A1 S[k].s.r.rows.length c1) (.slice A2 S[k].s.r.entries.length c2)).toList _ 0 ho1 (by omega)) (by omega)
  · exact ownsRow_base (ownsRow_setCs (g := w.heap.size + 1) (recVal S[k].s.r (.slice A1 S[k].s.r.rows.length c1) (.slice A2 S[k].s.r.entries.length c2)).toList _ 0 ho2 (by omega)) (by omega)
  · exact below_setCs (g := w.heap.size + 1) (recVal S[k].s.r (.slice A1 S[k].s.r.rows.length c1) (.slice A2 S[k].s.r.entries.length c2)).toList _ 0 (below_to hbw hb2) (by omega)
end Go.Proofs.YthidclcliflhkaaGreat
end
section
open Go Go.RowKit
namespace Go.Proofs.YthidclcliflhkaaGreat

theorem page_info : (Tryz.prog.info? 123).map (fun i => (i.zero, i.size, i.bytes)) = some (some (.agg (pgCells {}).toArray), 3, 24) := by kernel_rfl
theorem set_same {α : Type} {l : List α} {i : Nat} {a : α} (h : l[i]? = some a) : l.set i a = l := by
  obtain ⟨hl, e⟩ := List.getElem?_eq_some_iff.1 h
  rw [← e]; exact List.set_getElem_self hl
theorem pg_cell {w : World} {bp : Nat} {T : List Rl.Pg} (h : Blk w bp 123 (T.flatMap pgCells).toArray) (k : Nat) (hk : k < T.length) (j : Nat) (hj : j < 3) : w.cell? ⟨bp, k * 3 + j, none⟩ = (pgCells T[k])[j]? := by
  rw [h.cell]; simpa using flat_get pgCells_length T k j hk hj
theorem setN_pg (T : List Rl.Pg) (k : Nat) (x : Rl.Pg) (h : k < T.length) : setN (T.flatMap pgCells) (k * 3) (pgCells x) = (T.set k x).flatMap pgCells := setN_flat pgCells_length T k x h
set_option maxRecDepth 100000 in
theorem tnew_any (n : Nat) (w : World) (h1 : 1 ≤ n) (h2 : n ≤ 256) :
    Calls Tryz.prog 25 #[.int .i64 n] w fun e w' => ∃ bt bp, e = .returned (.pointer (some ⟨bt, 0, none⟩)) ∧ TableAt w' bt bp (List.replicate n {}) ∧ w.heap.size ≤ bt ∧ w.heap.size ≤ bp ∧ Below w.heap.size w w' := by
  obtain ⟨i0, hi0, hz0, hz1, hz2⟩ := info_parts page_info
  go_enter Tryz.func25, Tryz.ntmps25
  go_wp2_with (at_make
               refine wpList_make_full _ rfl _ _ _ rfl w.heap.size 123 i0 _ 3 Tryz.underlying112 hi0 hz0 hz1 .i64 .i64 _ _ n rfl rfl rfl rfl ?_ ?_ (Nat.le_refl _) ?_
               · rw [hz2]; omega
               · unfold maxLen; omega
               intro w1 hown hg)
  go_ret
  have hb1 : Below w.heap.size w w1 := Below.grown (Below.refl _ _) hg (Nat.le_refl _) (by simp)
  have hs := hown.lt w.heap.size rfl
  refine ⟨w1.heap.size, w.heap.size, rfl, ⟨?_, ?_⟩, hb1.size, Nat.le_refl _, hb1.alloc hb1.size _⟩
  · rw [List.length_replicate]; exact Blk.new _ _ _
  · have := blk_of_full hown
    have e : (madeCells (Value.agg (pgCells {}).toArray).cells (n * 3)).toList = _ := made_flat _ 3 n rfl (by omega) pgCells {} rfl pgCells_length
    rw [e] at this
    exact this.alloc _
set_option maxRecDepth 100000 in
theorem ttake_any (bt bp : Nat) (T : List Rl.Pg) (k0 : Nat) (w : World) (hT : TableAt w bt bp T) (hk : k0 < T.length) (hlen : T.length ≤ 256) (hu : ∀ k (h : k < k0), T[k].used = true) (hk0 : T[k0].used = false) :
    Calls Tryz.prog 28 #[.pointer (some ⟨bt, 0, none⟩)] w fun e w' => e = .returned (.tuple #[.int .i64 k0, .nilIface]) ∧ TableAt w' bt bp (T.set k0 ⟨true, ⟨0, 0⟩⟩) ∧ Fr [bp] w w' := by
  have hbt := hT.t.lt
  have hbp := hT.p.lt
  have hne := Blk.ne_ hT.t hT.p (by decide)
  have hcT := fun i => hT.t.cell i
  have hfP := fun i => hT.p.frozen i
  go_enter Tryz.func28, Tryz.ntmps28
  have HT := Lib.hid hT
  clear hT
  go_wp2_with fail
  go_loopw [13] (fun i wr => ∃ k : Nat, k ≤ k0 ∧ i = .int .i64 k ∧ wr = w) (fun i _ => T.length - (intOf i).toNat)
  case atStart => exact ⟨0, by omega, rfl, rfl⟩
  case round =>
    obtain ⟨k, hkk, rfl, rfl⟩ := hrel
    have hkl : k < T.length := by omega
    have q0 := pg_cell HT.out.p k hkl 0 (by omega)
    by_cases hlt : k < k0
    · have huk := hu k hlt
      simp only [pgCells, List.getElem?_cons_zero, huk, Nat.add_zero] at q0
      go_wp2_with fail
      exact ⟨⟨k + 1, by omega, by go_num, trivial⟩, by simp [intOf]; omega⟩
    · obtain rfl : k = k0 := by omega
      simp only [pgCells, List.getElem?_cons_zero, hk0, Nat.add_zero] at q0
      have q1 := pg_cell HT.out.p k hk 1 (by omega)
      have q2 := pg_cell HT.out.p k hk 2 (by omega)
      simp only [pgCells, List.getElem?_cons_succ, List.getElem?_cons_zero] at q1 q2
      go_wp2_with fail
      have hP := HT.out.p.setCs (pgCells ⟨true, ⟨0, 0⟩⟩) wr (k * 3)
      rw [setN_pg T k _ hk] at hP
      have hB := HT.out.t.farCs hne (pgCells ⟨true, ⟨0, 0⟩⟩) wr (k * 3)
      have hF : Fr [bp] wr (wr.setCells bp (k * 3) (pgCells ⟨true, ⟨0, 0⟩⟩)) := Fr.setCs _ _ _ (Fr.refl _ _) (.inl (by simp))
      go_ret2
      exact ⟨rfl, ⟨by rw [List.length_set]; exact hB, hP⟩, hF⟩
set_option maxRecDepth 100000 in
theorem tat_any (bt bp : Nat) (T : List Rl.Pg) (k : Nat) (w : World) (hT : TableAt w bt bp T) (hk : k < T.length) (hlen : T.length ≤ 256) (hu : T[k].used = true) :
    Calls Tryz.prog 47 #[.pointer (some ⟨bt, 0, none⟩), .int .i64 k] w fun e w' => e = .returned (.tuple #[.pointer (some ⟨bp, k * 3, none⟩), .nilIface]) ∧ w' = w := by
  have hcT := fun i => hT.t.cell i
  have q0 := pg_cell hT.p k hk 0 (by omega)
  have q1 := pg_cell hT.p k hk 1 (by omega)
  have q2 := pg_cell hT.p k hk 2 (by omega)
  simp only [pgCells, List.getElem?_cons_succ, List.getElem?_cons_zero, hu, Nat.add_zero] at q0 q1 q2
  have d1 : decide ((k : Int) < 0) = false := by simp
  have d2 : decide ((k : Int) ≥ (T.length : Int)) = false := by simp; omega
  have d3 : decide ((T.length : Int) ≤ (k : Int)) = false := by simp; omega
  have HT := Lib.hid hT
  clear hT
  go_enter Tryz.func47, Tryz.ntmps47
  go_wp2_with fail
  go_ret2
  exact ⟨rfl, rfl⟩
set_option maxRecDepth 100000 in
theorem thead_any (bt bp : Nat) (T : List Rl.Pg) (k : Nat) (w : World) (hT : TableAt w bt bp T) (hk : k < T.length) (hlen : T.length ≤ 256) (hu : T[k].used = true) :
    Calls Tryz.prog 50 #[.pointer (some ⟨bt, 0, none⟩), .int .i64 k] w fun e w' => e = .returned (.tuple #[.agg #[.int .i64 T[k].head.slot, .int .i64 T[k].head.gen], .nilIface]) ∧ Below w.heap.size w w' := by
  have hbt := hT.t.lt
  have hbp := hT.p.lt
  have q1 := pg_cell hT.p k hk 1 (by omega)
  have q2 := pg_cell hT.p k hk 2 (by omega)
  simp only [pgCells, List.getElem?_cons_succ, List.getElem?_cons_zero] at q1 q2
  have HT := Lib.hid hT
  clear hT
  go_enter Tryz.func50, Tryz.ntmps50
  go_wp2_with (go_at_call 47
               refine (tat_any bt bp T k _ (HT.out.fr (Fr.of_below (by repeat' (first | (with_reducible exact Below.refl _ _) | (with_reducible assumption) | (with_reducible refine Below.alloc ?_ ?_ _) | (with_reducible refine below_drewN ?_ _) | (with_reducible refine Below.drew ?_) | (with_reducible refine Below.setCell ?_ ?_ _) | go_size)) []) (by simp) (by simp)) hk hlen hu).mono ?_
               rintro e w1 ⟨rfl, rfl⟩)
  have hcc := fun i => Blk.cell (((Blk.new_at (X := w) (b := w.heap.size) (t := 55) (cs := #[.int .i64 0, .int .i64 0]) rfl).set_ 0 (.int .i64 T[k].head.slot)).set_ 1 (.int .i64 T[k].head.gen)) i
  refine bodyPost_ret (v := .tuple #[.agg #[.int .i64 T[k].head.slot, .int .i64 T[k].head.gen], .nilIface]) ?_ rfl ⟨rfl, ?_⟩
  · simp [results, Tryz.results50, go_sem, hcc]
  · exact (by repeat' (first | (with_reducible exact Below.refl _ _) | (with_reducible assumption) | (with_reducible refine Below.alloc ?_ ?_ _) | (with_reducible refine below_drewN ?_ _) | (with_reducible refine Below.drew ?_) | (with_reducible refine Below.setCell ?_ ?_ _) | go_size))
set_option maxRecDepth 100000 in
theorem tswap_ok (bt bp : Nat) (T : List Rl.Pg) (k : Nat) (os og ns ng : Int) (w : World) (hT : TableAt w bt bp T) (hk : k < T.length) (hlen : T.length ≤ 256) (hu : T[k].used = true) (hs : T[k].head = ⟨os, og⟩) :
    Calls Tryz.prog 29 #[.pointer (some ⟨bt, 0, none⟩), .int .i64 k, .agg #[.int .i64 os, .int .i64 og], .agg #[.int .i64 ns, .int .i64 ng]] w
      fun e w' => e = .returned (.tuple #[.bool true, .nilIface]) ∧ TableAt w' bt bp (T.set k ⟨true, ⟨ns, ng⟩⟩) ∧ Fr [bp] w w' := by
  have hbt := hT.t.lt
  have hbp := hT.p.lt
  have hne := Blk.ne_ hT.t hT.p (by decide)
  have q0 := pg_cell hT.p k hk 0 (by omega)
  have q1 := pg_cell hT.p k hk 1 (by omega)
  have q2 := pg_cell hT.p k hk 2 (by omega)
  simp only [pgCells, List.getElem?_cons_succ, List.getElem?_cons_zero, hs, hu, Nat.add_zero] at q0 q1 q2
  have hfP := fun i => hT.p.frozen i
  have HT := Lib.hid hT
  clear hT
  go_enter Tryz.func29, Tryz.ntmps29
  go_wp2_with (go_at_call 47
               refine (tat_any bt bp T k _ (HT.out.fr (Fr.of_below (by repeat' (first | (with_reducible exact Below.refl _ _) | (with_reducible assumption) | (with_reducible refine Below.alloc ?_ ?_ _) | (with_reducible refine below_drewN ?_ _) | (with_reducible refine Below.drew ?_) | (with_reducible refine Below.setCell ?_ ?_ _) | go_size)) []) (by simp) (by simp)) hk hlen hu).mono ?_
               rintro e w1 ⟨rfl, rfl⟩)
  go_region
  go_wp2_with fail
  have hP := HT.out.p.setCs [.int .i64 ns, .int .i64 ng] w (k * 3 + 1)
  have hse : setN (T.flatMap pgCells) (k * 3 + 1) [.int .i64 ns, .int .i64 ng] = (T.set k ⟨true, ⟨ns, ng⟩⟩).flatMap pgCells := by
    rw [← setN_pg T k _ hk]
    show _ = setN ((T.flatMap pgCells).set (k * 3) (.bool true)) (k * 3 + 1) [.int .i64 ns, .int .i64 ng]
    congr 1
    refine (set_same ?_).symm
    have := flat_get pgCells_length T k 0 hk (by omega)
    simpa [pgCells, hu] using this
  rw [hse] at hP
  have hB := HT.out.t.farCs hne [.int .i64 ns, .int .i64 ng] w (k * 3 + 1)
  have hF : Fr [bp] w (w.setCells bp (k * 3 + 1) [.int .i64 ns, .int .i64 ng]) := Fr.setCs _ _ _ (Fr.refl _ _) (.inl (by simp))
  go_ret2
  exact ⟨rfl, ⟨by rw [List.length_set]; exact ((hB.alloc _).alloc _).drewN 1, ((hP.alloc _).alloc _).drewN 1⟩, ((hF.alloc _).alloc _).drewN 1⟩
end Go.Proofs.YthidclcliflhkaaGreat
end
section
open Go Go.RowKit Go.Maps
namespace Go.Proofs.YthidclcliflhkaaGreat

theorem wf_i64 {a : Int} (h1 : -9223372036854775808 ≤ a) (h2 : a ≤ 9223372036854775807) : (Lit.int .i64 a).wf = true := by
  have e1 : IntKind.i64.min = -9223372036854775808 := by decide
  have e2 : IntKind.i64.max = 9223372036854775807 := by decide
  simp only [Lit.wf, e1, e2, Bool.and_eq_true, decide_eq_true_eq]
  exact ⟨h1, h2⟩
theorem law_int : Keyed Tryz.prog 3 := int_keyed Tryz.underlying3
theorem zero_int (w : World) : (zeroValue 3).run Tryz.prog w = .ok (.int .i64 0) w := by kernel_rfl
theorem Fr.of_grown {w w' : World} {row : Option Nat} {F : List Nat} (h : w.grownBy w' row) (hr : ∀ g, row = some g → g ∈ F) : Fr F w w' :=
  ⟨h.os, h.tape, h.output, h.size, fun k hk hf => h.block k hk (fun e => hf (hr k e.symm))⟩
set_option maxRecDepth 100000 in
theorem cnew_any (threads last : Int) (w : World) (h1 : 1 ≤ threads) (h2 : threads ≤ 64) (h3 : 1 ≤ last) (h4 : last ≤ 1099511627776) :
    Calls Tryz.prog 26 #[.int .i64 threads, .int .i64 last] w fun e w' => ∃ bc bi, e = .returned (.pointer (some ⟨bc, 0, none⟩)) ∧ ClockAt w' bc bi 1 last threads 0 (.map []) ∧ w.heap.size ≤ bc ∧ w.heap.size ≤ bi ∧ Below w.heap.size w w' := by
  have hmm := @run_makeMap Tryz.prog
  go_enter Tryz.func26, Tryz.ntmps26
  go_wp2
  go_ret
  refine ⟨w.heap.size + 1, w.heap.size, rfl, ⟨Blk.new_at (by simp), (World.ownsMap_made w Tryz.prog 3 _).alloc _⟩, by omega, by omega, (by repeat' (first | (with_reducible exact Below.refl _ _) | (with_reducible assumption) | (with_reducible refine Below.alloc ?_ ?_ _) | (with_reducible refine below_drewN ?_ _) | (with_reducible refine Below.drew ?_) | (with_reducible refine Below.setCell ?_ ?_ _) | go_size))⟩
set_option maxRecDepth 100000 in
theorem cbump_ok (bc bi : Nat) (now last threads : Int) (k : Nat) (D : DataW Unit) (w : World) (hC : ClockAt w bc bi now last threads k D) (hn : now < last) (h0 : 0 ≤ now) (hl : last ≤ 1099511627776) :
    Calls Tryz.prog 57 #[.pointer (some ⟨bc, 0, none⟩)] w fun e w' => e = .returned (.tuple #[.int .i64 (now + 1), .nilIface]) ∧ ClockAt w' bc bi (now + 1) last threads k D ∧ Fr [bc] w w' := by
  have hbc := hC.c.lt
  have hne : bi ≠ bc := by
    rintro rfl
    obtain ⟨es, clock, hh, _⟩ := hC.m
    have := hC.c
    unfold Blk at this
    rw [hh] at this; cases this
  have hc := fun i => hC.c.cell i
  have hf := fun i => hC.c.frozen i
  have hw1 : IntKind.i64.wrap (now + 1) = now + 1 := IntWalk.i64_in _ (by omega)
  have hne2 : ¬ now = last := by omega
  have HC := Lib.hid hC
  clear hC
  go_enter Tryz.func57, Tryz.ntmps57
  go_wp2_with fail
  go_region
  go_wp2_with fail
  go_ret2
  refine ⟨rfl, ⟨((HC.out.c.set_ 0 (.int .i64 (now + 1))).drewN 1), ?_⟩, ((Fr.refl _ _).setCell (p := ⟨bc, 0, none⟩) (.inl (by simp)) _).drewN 1⟩
  exact (HC.out.m.setCell (a := ⟨bc, 0, none⟩) hne (.int .i64 (now + 1))).drew
set_option maxRecDepth 100000 in
theorem center_ok (bc bi : Nat) (now last threads : Int) (k : Nat) (D : DataW Unit) (t at_ : Int) (w : World) (hC : ClockAt w bc bi now last threads k D) (ht : 0 ≤ t) (ht2 : t < threads) (ht3 : threads ≤ 64) (ha : 1 ≤ at_) (ha2 : at_ ≤ now) (hn : now ≤ 1099511627776)
    (hin : Maps.has D (.int .i64 t) = false) (hk : k < maxLen) :
    Calls Tryz.prog 62 #[.pointer (some ⟨bc, 0, none⟩), .int .i64 t, .int .i64 at_] w fun e w' => e = .returned .nilIface ∧ ClockAt w' bc bi now last threads (k + 1) (D.put (.int .i64 t) (.lit (.int .i64 at_))) ∧ Fr [bi] w w' := by
  have hbc := hC.c.lt
  have hc := fun i => hC.c.cell i
  have hkey : keyOf Tryz.prog 3 (.int .i64 t) = some (.int .i64 t) := keyOf_int_mk Tryz.underlying3 (wf_i64 (by omega) (by omega))
  have hval : (Lit.int .i64 at_).wf = true := wf_i64 (by omega) (by omega)
  have d1 : decide (at_ < 1) = false := by simp; omega
  have d2 : decide (at_ > now) = false := by simp; omega
  have d3 : decide (now < at_) = false := by simp; omega
  have hne : bi ≠ bc := by
    rintro rfl
    obtain ⟨es, clock, hh, _⟩ := hC.m
    have := hC.c
    unfold Blk at this
    rw [hh] at this; cases this
  have HC := Lib.hid hC
  clear hC
  go_enter Tryz.func62, Tryz.ntmps62
  go_wp2_with (first
    | (at_lookup
       refine wpList_lookup_own_ok_int _ rfl _ _ 115 rfl 3 3 .i64 law_int Tryz.underlying115 Tryz.underlying3 (zero_int _) bi k _ rfl HC.out.m _ _ rfl hkey ?_
       intro c hat hwc
       rw [hin])
    | (at_mapUpdate
       refine wpList_mapUpdate_in _ rfl _ _ _ 115 rfl 3 3 law_int Tryz.underlying115 _ bi k _ rfl HC.out.m hk _ _ _ rfl rfl hkey _ [] (plainElem_int Tryz.underlying3 hval) ?_
       intro w1 hown1 hturn1)
    | go_in)
  have hF : Fr [bi] w w1 := Fr.of_grown hturn1.grown (fun g hg => by simp at hg; simp [hg])
  go_ret
  exact ⟨rfl, ⟨hF.blk HC.out.c (by simpa using hne.symm), hown1⟩, hF⟩
set_option maxRecDepth 100000 in
theorem cleave_ok (bc bi : Nat) (now last threads : Int) (k : Nat) (D : DataW Unit) (t : Int) (w : World) (hC : ClockAt w bc bi now last threads k D) (ht : 0 ≤ t) (ht2 : t < threads) (ht3 : threads ≤ 64) (hin : Maps.has D (.int .i64 t) = true) :
    Calls Tryz.prog 138 #[.pointer (some ⟨bc, 0, none⟩), .int .i64 t] w fun e w' => e = .returned .nilIface ∧ ClockAt w' bc bi now last threads k (D.del (.int .i64 t)) ∧ Fr [bi] w w' := by
  have hbc := hC.c.lt
  have hc := fun i => hC.c.cell i
  have hkey : keyOf Tryz.prog 3 (.int .i64 t) = some (.int .i64 t) := keyOf_int_mk Tryz.underlying3 (wf_i64 (by omega) (by omega))
  have hne : bi ≠ bc := by
    rintro rfl
    obtain ⟨es, clock, hh, _⟩ := hC.m
    have := hC.c
    unfold Blk at this
    rw [hh] at this; cases this
  have HC := Lib.hid hC
  clear hC
  go_enter Tryz.func138, Tryz.ntmps138
  go_wp2_with (first
    | (at_lookup
       refine wpList_lookup_own_ok_int _ rfl _ _ 115 rfl 3 3 .i64 law_int Tryz.underlying115 Tryz.underlying3 (zero_int _) bi k _ rfl HC.out.m _ _ rfl hkey ?_
       intro c hat hwc
       rw [hin])
    | (at_delete
       refine wpList_delete_own _ rfl _ _ 115 3 rfl 3 law_int Tryz.underlying115 _ bi k _ rfl HC.out.m _ _ rfl hkey ?_
       intro w1 hown1 hturn1)
    | go_in)
  have hF : Fr [bi] w w1 := Fr.of_grown hturn1.grown (fun g hg => by simp at hg; simp [hg])
  go_ret
  exact ⟨rfl, ⟨hF.blk HC.out.c (by simpa using hne.symm), hown1⟩, hF⟩
end Go.Proofs.YthidclcliflhkaaGreat
end
