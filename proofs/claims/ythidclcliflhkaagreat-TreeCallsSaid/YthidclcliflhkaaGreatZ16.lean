/- The installer's accesses: contracts: put. The installer's accesses: contracts: heading, swapping. What the thread's accesses do: contracts: again, bump$1. -/
import Derived.Test.YthidclcliflhkaaGreatZ13
import Derived.Test.YthidclcliflhkaaGreatZ14
import Derived.Test.YthidclcliflhkaaGreatZ15
section
open Go Go.RowKit
namespace Go.Proofs.YthidclcliflhkaaGreat

theorem MemAt.freeF {w : World} {b : MB} {lim : Rl.Limits} {count : Int} {S : List SlotV} {T : List Rl.Pg} {now : Int} {k : Nat} {D : DataW Unit} (h : MemAt w b lim count S T now k D) (t : TypeId) (h1 : t ≠ 79) (h2 : t ≠ 120) (h3 : t ≠ 123) (h4 : t ≠ 117) : FreeOf w b.F t := by
  intro g hg cs fr e
  simp [MB.F] at hg
  rcases hg with rfl | rfl | rfl | rfl | rfl
  · have := h.m; unfold Blk at this; rw [e] at this; injection this with this; injection this with _ h5; exact h1 h5
  · have := h.a.s; unfold Blk at this; rw [e] at this; injection this with this; injection this with _ h5; exact h2 h5
  · have := h.t.p; unfold Blk at this; rw [e] at this; injection this with this; injection this with _ h5; exact h3 h5
  · have := h.c.c; unfold Blk at this; rw [e] at this; injection this with this; injection this with _ h5; exact h4 h5
  · obtain ⟨es, clock, hh, _⟩ := h.c.m
    rw [hh] at e; cases e
theorem own_blk {w : World} {base g : Nat} {e : TypeId} {size n : Nat} {v : Value} {xs : List Value} (h : w.ownsRow base e size v n xs) (hg : g ∈ v.ownBlock.toList) : ∃ cs, Blk w g e cs := by
  rcases h.2 with ⟨rfl, _⟩ | ⟨g', cap, cur, rfl, _, hh, _⟩
  · simp [Value.ownBlock] at hg
  · obtain rfl : g = g' := by simpa [Value.ownBlock] using hg
    exact ⟨_, hh⟩
theorem OffMem.append {w : World} {b : MB} {F G : List Nat} (h : OffMem w b F) (k : OffMem w b G) : OffMem w b (F ++ G) := by
  have hf : ∀ t, FreeOf w F t → FreeOf w G t → FreeOf w (F ++ G) t := fun t h1 h2 g hg => by
    rcases List.mem_append.1 hg with h | h
    · exact h1 g h
    · exact h2 g h
  exact ⟨by simp [h.m, k.m], by simp [h.a, k.a], by simp [h.s, k.s], by simp [h.t, k.t], by simp [h.p, k.p], by simp [h.c, k.c], by simp [h.i, k.i], hf _ h.rows k.rows, hf _ h.ents k.ents⟩
theorem MemAt.offRow {w : World} {b : MB} {lim : Rl.Limits} {count : Int} {S : List SlotV} {T : List Rl.Pg} {now : Int} {k : Nat} {D : DataW Unit} (h : MemAt w b lim count S T now k D) {base : Nat} {size n : Nat} {v : Value} {xs : List Value} (ho : w.ownsRow base 55 size v n xs) : OffMem w b v.ownBlock.toList := by
  cases hv : v.ownBlock with
  | none => exact ⟨by simp, by simp, by simp, by simp, by simp, by simp, by simp, freeOf_nil _ _, freeOf_nil _ _⟩
  | some g =>
    obtain ⟨cs, hb⟩ := own_blk (g := g) ho (by rw [hv]; simp)
    exact h.offRef hb
theorem inst_rec (pn os og news : Int) (mk : Value) (stage : Int) (pv bv : Value) (r : Rl.Rec) (rv ev rf : Value) (at_ : Int) (done : Bool) (er : Value) : ∀ j v, (recVal r rv ev).toList[j]? = some v → (instC pn os og news mk stage pv bv r rv ev rf at_ done er)[8 + j]? = some v := by
  intro j v h
  have e : (instC pn os og news mk stage pv bv r rv ev rf at_ done er).toList = [.int .i64 pn, .int .i64 os, .int .i64 og, .int .i64 news, mk, .int .i64 stage, pv, bv] ++ ((recVal r rv ev).toList ++ [rf, .int .i64 at_, .bool done, er]) := rfl
  rw [← Array.getElem?_toList, e, List.getElem?_append_right (by simp), List.getElem?_append_left (by have := (List.getElem?_eq_some_iff.1 h).1; simp at this ⊢; omega)]
  simpa using h
set_option maxRecDepth 100000 in
set_option maxHeartbeats 2000000 in
theorem iput_ok (bi : Nat) (pn os og news : Int) (mk : Value) (stage : Int) (pv bv : Value) (hr : Rl.Rec) (hrv hev : Value) (A : Option Addr) (j c : Nat) (rcs : List Value) (at_ : Int) (done : Bool) (er : Value) (B0 : Nat)
    (b : MB) (lim : Rl.Limits) (count : Int) (S : List SlotV) (T : List Rl.Pg) (now : Int) (k : Nat) (D : DataW Unit) (k0 : Nat) (r : Rl.Rec) (rv ev : Value) (w : World)
    (hI : Blk w bi 257 (instC pn os og news mk stage pv bv hr hrv hev (.slice A j c) at_ done er)) (hO : w.ownsRow B0 55 2 (.slice A j c) j rcs) (hB0 : B0 ≤ w.heap.size) (hj : j ≤ 4096)
    (hM : MemAt w b lim count S T now k D) (hR : RecAt w r rv ev) (hok : RecOk r) (hk : k0 < S.length) (hlen : S.length ≤ 4096)
    (hu : ∀ k (h : k < k0), S[k].s.used = true) (hk0 : S[k0].s.used = false) (hg0 : S[k0].s.gen < lim.count) (hlast : lim.count ≤ 1099511627776) (hg1 : 0 ≤ S[k0].s.gen) (hc0 : 0 ≤ count) (hc1 : count ≤ 1099511627776) :
    Calls Tryz.prog 172 #[.pointer (some ⟨bi, 0, none⟩), .pointer (some ⟨b.m, 0, none⟩), .agg (recVal r rv ev)] w fun e w' => e = .returned .nilIface ∧ ∃ A' c' rv' ev',
      Blk w' bi 257 (instC pn os og news mk stage pv bv hr hrv hev (.slice A' (j + 1) c') at_ done er) ∧ w'.ownsRow B0 55 2 (.slice A' (j + 1) c') (j + 1) (rcs ++ [.int .i64 (k0 + 1), .int .i64 (S[k0].s.gen + 1)]) ∧
      MemAt w' b lim (count + 1) (S.set k0 ⟨⟨S[k0].s.gen + 1, true, r⟩, rv', ev'⟩) T now k D ∧ Fr (bi :: (Value.slice A j c).ownBlock.toList ++ b.F) w w' := by
  obtain ⟨⟨AR, cR, rfl, hlR, hoR⟩, ⟨AE, cE, rfl, hlE, hoE⟩⟩ := hR
  have hlt := hI.lt
  have HI := Lib.hid hI
  have HO := Lib.hid hO
  have HM := Lib.hid hM
  have HR := Lib.hid (show RecAt w r (.slice AR r.rows.length cR) (.slice AE r.entries.length cE) from ⟨⟨AR, cR, rfl, hlR, hoR⟩, ⟨AE, cE, rfl, hlE, hoE⟩⟩)
  clear hI hO hM hoR hoE
  obtain ⟨i0, hi0, hz0, hz1, hz2⟩ := info_parts ref_info
  go_enter Tryz.func172, Tryz.ntmps172
  go_wp2_with (first
    | (refine wpList_load_arr rfl 83 _ rfl w.heap.size 0 rfl (recVal r (.slice AR r.rows.length cR) (.slice AE r.entries.length cE)) _ (Blk.new_at rfl).rangeArr Tryz.underlying83 rfl (by kernel_rfl) ?_)
    | (go_at_call 181
       refine (malloc_any b lim count S T now k D k0 r _ _ _ (HM.out.below (by repeat' (first | (with_reducible exact Below.refl _ _) | (with_reducible assumption) | (with_reducible refine Below.alloc ?_ ?_ _) | (with_reducible refine below_drewN ?_ _) | (with_reducible refine Below.drew ?_) | (with_reducible refine Below.setCell ?_ ?_ _) | go_size))) (HR.out.keep (by repeat' (first | (with_reducible exact Below.refl _ _) | (with_reducible assumption) | (with_reducible refine Below.alloc ?_ ?_ _) | (with_reducible refine below_drewN ?_ _) | (with_reducible refine Below.drew ?_) | (with_reducible refine Below.setCell ?_ ?_ _) | go_size))) hok hk hlen hu hk0 hg0 hlast hg1 hc0 hc1).mono ?_
       rintro e w1 ⟨rv', ev', rfl, hM1, hF1⟩
       have hs1 := hF1.size))
  refine wp_name ?_
  intro V HV
  have hFV : Fr b.F w V := by rw [← HV.out]; exact (((Fr.refl b.F w).alloc _).trans hF1).alloc _
  have hXV := Lib.hid (show Blk V w1.heap.size 55 #[.int .i64 (k0 + 1), .int .i64 (S[k0].s.gen + 1)] by rw [← HV.out]; exact Blk.new_at rfl)
  have hnF := (HM.out.off HI.out (by decide) (by decide) (by decide) (by decide) (by decide) (by decide) (by decide) (by decide)).notF
  have hIV := Lib.hid (hFV.blk HI.out hnF)
  have hOV := Lib.hid (hFV.own HO.out (HM.out.freeF _ (by decide) (by decide) (by decide) (by decide)))
  have hMV := Lib.hid (show MemAt V b lim (count + 1) (S.set k0 ⟨⟨S[k0].s.gen + 1, true, r⟩, rv', ev'⟩) T now k D by rw [← HV.out]; exact hM1.below (by repeat' (first | (with_reducible exact Below.refl _ _) | (with_reducible assumption) | (with_reducible refine Below.alloc ?_ ?_ _) | (with_reducible refine below_drewN ?_ _) | (with_reducible refine Below.drew ?_) | (with_reducible refine Below.setCell ?_ ?_ _) | go_size)))
  have hwV : w.heap.size ≤ w1.heap.size := by simp at hs1; omega
  clear HV hM1 hF1 hs1
  have hlV := hIV.out.lt
  have hxV := hXV.out.lt
  have hcI := fun i => hIV.out.cell i
  have hcX := fun i => hXV.out.cell i
  simp only [instC] at hcI
  obtain ⟨G, HG⟩ : ∃ G, Hid ((Value.slice A j c).ownBlock.toList = G) := ⟨_, Lib.hid rfl⟩
  have hGI : bi ∉ G := by rw [← HG.out]; exact row_ne hOV.out hIV.out (by decide)
  have hGX : w1.heap.size ∉ G := by
    rw [← HG.out]; intro h
    have h1 := (row_ge HO.out _ h).2
    omega
  refine wp_region_head 8 (fun w' => Fr G V w') (by kernel_rfl) (by kernel_rfl) ?_
  (refine HW.q (i := 0) rfl (by kernel_rfl) (fun _ _ _ _ h => h) ?_ ?_; (focus ((try dsimp only); exact (by repeat' (first | (with_reducible exact Fr.refl _ _) | (with_reducible assumption) | (with_reducible refine Fr.drew ?_) | (with_reducible refine Fr.drewN ?_ _) | (with_reducible refine Fr.alloc ?_ _))))); intro K hK; go_simp; first | (refine hK _ ?_; clear hK K) | (refine ⟨_, fun _ _ => rfl, hK _ ?_⟩; clear hK K))
  (refine HW.q (i := 1) rfl (by kernel_rfl) (fun _ _ _ _ h => h) ?_ ?_; (focus ((try dsimp only); exact (by repeat' (first | (with_reducible exact Fr.refl _ _) | (with_reducible assumption) | (with_reducible refine Fr.drew ?_) | (with_reducible refine Fr.drewN ?_ _) | (with_reducible refine Fr.alloc ?_ _))))); intro K hK; go_simp; first | (refine hK _ ?_; clear hK K) | (refine ⟨_, fun _ _ => rfl, hK _ ?_⟩; clear hK K))
  (refine HW.q (i := 2) rfl (by kernel_rfl) (fun _ _ _ _ h => h) ?_ ?_; (focus ((try dsimp only); exact (by repeat' (first | (with_reducible exact Fr.refl _ _) | (with_reducible assumption) | (with_reducible refine Fr.drew ?_) | (with_reducible refine Fr.drewN ?_ _) | (with_reducible refine Fr.alloc ?_ _))))); intro K hK; go_simp; first | (refine hK _ ?_; clear hK K) | (refine ⟨_, fun _ _ => rfl, hK _ ?_⟩; clear hK K))
  (refine HW.q (i := 3) rfl (by kernel_rfl) (fun _ _ _ _ h => h) ?_ ?_; (focus ((try dsimp only); exact (by repeat' (first | (with_reducible exact Fr.refl _ _) | (with_reducible assumption) | (with_reducible refine Fr.drew ?_) | (with_reducible refine Fr.drewN ?_ _) | (with_reducible refine Fr.alloc ?_ _))))); intro K hK; go_simp; first | (refine hK _ ?_; clear hK K) | (refine ⟨_, fun _ _ => rfl, hK _ ?_⟩; clear hK K))
  (refine HW.q (i := 4) rfl (by kernel_rfl) (fun _ _ _ _ h => h) ?_ ?_; (focus ((try dsimp only); exact (by repeat' (first | (with_reducible exact Fr.refl _ _) | (with_reducible assumption) | (with_reducible refine Fr.drew ?_) | (with_reducible refine Fr.drewN ?_ _) | (with_reducible refine Fr.alloc ?_ _))))); intro K hK; go_simp; apply Exists.intro; refine ⟨fun w2 hw2 => ?_, hK _ ?_⟩; (focus (obtain ⟨hc2, hf2⟩ := frcell hw2; go_simp; first | done | rfl)); clear hK K)
  (refine HW.q (i := 5) rfl (by kernel_rfl) (fun _ _ _ _ h => h) ?_ ?_; (focus ((try dsimp only); exact (by repeat' (first | (with_reducible exact Fr.refl _ _) | (with_reducible assumption) | (with_reducible refine Fr.drew ?_) | (with_reducible refine Fr.drewN ?_ _) | (with_reducible refine Fr.alloc ?_ _))))); intro K hK; go_simp; apply Exists.intro; refine ⟨fun w2 hw2 => ?_, hK _ ?_⟩; (focus (obtain ⟨hc2, hf2⟩ := frcell hw2; go_simp; first | done | rfl)); clear hK K)
  (refine HW.solo (i := 6) rfl (by kernel_rfl) (by kernel_rfl) ?_; intro K hK; go_simp)
  refine hK _ _ (by (try dsimp only); exact (by repeat' (first | (with_reducible exact Fr.refl _ _) | (with_reducible assumption) | (with_reducible refine Fr.drew ?_) | (with_reducible refine Fr.drewN ?_ _) | (with_reducible refine Fr.alloc ?_ _)))) ?_
  clear hK K
  refine HW.solo (i := 7) rfl (by kernel_rfl) (by kernel_rfl) ?_
  intro K hK
  refine wp_append_any _ (.tmp 21) (.tmp 23) _ rfl B0 55 i0 _ 2 16 Tryz.underlying92 hi0 hz0 hz1 hz2 rfl (by decide) (.slice A j c) j rcs rfl (ownsRow_keep hOV.out (by repeat' (first | (with_reducible exact Below.refl _ _) | (with_reducible assumption) | (with_reducible refine Below.alloc ?_ ?_ _) | (with_reducible refine below_drewN ?_ _) | (with_reducible refine Below.drew ?_) | (with_reducible refine Below.setCell ?_ ?_ _) | go_size))) (V.heap.size + 1) (some ⟨V.heap.size, 0, none⟩) 1 1 [.int .i64 ((k0 : Int) + 1), .int .i64 (S[k0].s.gen + 1)] rfl (lit_reads (X := V) (b := V.heap.size) #[.int .i64 ((k0 : Int) + 1), .int .i64 (S[k0].s.gen + 1)] 2 1 rfl rfl) (by intro u hu; simp at hu; rcases hu with rfl | rfl <;> rfl) ?_ ?_ ?_ ?_
  · simp only [maxLen]; omega
  · omega
  · simp; omega
  intro v1 w3 ho3 hg3 hx3
  obtain ⟨A', c', rfl, hl'⟩ := own_form ho3
  have hgF := Fr.of_grown0 hg3
  rw [HG.out] at hgF
  have hF3 : Fr G V w3 := (((Fr.refl G V).alloc _).drew).trans hgF
  have HO3 := Lib.hid ho3
  refine hK _ _ hF3 ?_
  clear hK K hgF hg3 hx3 ho3 hcI hcX
  have HI3 := Lib.hid (hF3.blk hIV.out hGI)
  have hl3 := HI3.out.lt
  have hcI := fun i => HI3.out.cell i
  have hfI := fun i => HI3.out.frozen i
  simp only [instC] at hcI
  refine HW.done (by kernel_rfl) ?_
  simp only [List.drop_succ_cons, List.drop_zero]
  go_wp2_with fail
  have hI4 := HI3.out.sets [(23, .slice A' (j + 1) c')]
  simp only [asets, instC, List.setIfInBounds_toArray, List.set_cons_succ, List.set_cons_zero] at hI4
  refine bp_name (wset bi [(23, .slice A' (j + 1) c')] w3) rfl ?_
  intro V4 HV4
  have hF4 : Fr [bi] w3 V4 := by rw [← HV4.out]; exact Fr.sets bi _ w3
  rw [HV4.out] at hI4
  clear HV4 hcI hfI
  have hM3 := hMV.out.fr hF3 (by rw [← HG.out]; exact hMV.out.offRow hOV.out)
  have hM4 := hM3.fr hF4 (hM3.off HI3.out (by decide) (by decide) (by decide) (by decide) (by decide) (by decide) (by decide) (by decide))
  have hO4 := hF4.own HO3.out (freeOf_one HI3.out (by decide))
  have hFF : Fr (bi :: G ++ b.F) w V4 := ((hFV.mono (by intro g hg; simp [hg])).trans (hF3.mono (by intro g hg; simp [hg]))).trans (hF4.mono (by intro g hg; simp at hg; simp [hg]))
  go_ret
  exact ⟨rfl, A', c', rv', ev', hI4, hO4, hM4, by rw [HG.out]; exact hFF⟩
end Go.Proofs.YthidclcliflhkaaGreat
end
section
open Go Go.RowKit
namespace Go.Proofs.YthidclcliflhkaaGreat

set_option maxRecDepth 100000 in
set_option maxHeartbeats 2000000 in
theorem fwd_head (bi : Nat) (pn os og news : Int) (mk : Value) (pv bv : Value) (r : Rl.Rec) (rv ev : Value) (A : Option Addr) (j c : Nat) (rcs : List Value) (at_ : Int) (done : Bool) (B0 : Nat)
    (b : MB) (lim : Rl.Limits) (count : Int) (S : List SlotV) (T : List Rl.Pg) (now : Int) (k : Nat) (D : DataW Unit) (k0 : Nat) (w : World)
    (hI : Blk w bi 257 (instC pn os og news mk 3 pv bv r rv ev (.slice A j c) at_ done .nilIface)) (hO : w.ownsRow B0 55 2 (.slice A j c) j rcs) (hB0 : B0 ≤ w.heap.size) (hj : j ≤ 4096)
    (hM : MemAt w b lim count S T now k D) (hR : RecAt w r rv ev) (hok : RecOk r) (hk : k0 < S.length) (hlen : S.length ≤ 4096)
    (hu : ∀ k (h : k < k0), S[k].s.used = true) (hk0 : S[k0].s.used = false) (hg0 : S[k0].s.gen < lim.count) (hlast : lim.count ≤ 1099511627776) (hg1 : 0 ≤ S[k0].s.gen) (hc0 : 0 ≤ count) (hc1 : count ≤ 1099511627776) :
    Calls Tryz.prog 165 #[.pointer (some ⟨bi, 0, none⟩), .pointer (some ⟨b.m, 0, none⟩)] w fun e w' => e = .returned (.bool false) ∧ ∃ A' c' rv' ev',
      Blk w' bi 257 (instC pn os og news mk 4 pv bv r rv ev (.slice A' (j + 1) c') at_ done .nilIface) ∧ w'.ownsRow B0 55 2 (.slice A' (j + 1) c') (j + 1) (rcs ++ [.int .i64 (k0 + 1), .int .i64 (S[k0].s.gen + 1)]) ∧
      MemAt w' b lim (count + 1) (S.set k0 ⟨⟨S[k0].s.gen + 1, true, r⟩, rv', ev'⟩) T now k D ∧ Fr (bi :: (Value.slice A j c).ownBlock.toList ++ b.F) w w' := by
  obtain ⟨⟨AR, cR, rfl, hlR, hoR⟩, ⟨AE, cE, rfl, hlE, hoE⟩⟩ := hR
  have hlt := hI.lt
  have hcI := fun i => hI.cell i
  simp only [instC] at hcI
  have hrg := Lib.hid (show w.rangeAt bi 8 (recVal r (.slice AR r.rows.length cR) (.slice AE r.entries.length cE)).toList from hI.range 8 _ (inst_rec _ _ _ _ _ _ _ _ _ _ _ _ _ _ _))
  have HI := Lib.hid hI
  have HO := Lib.hid hO
  have HM := Lib.hid hM
  have HR := Lib.hid (show RecAt w r (.slice AR r.rows.length cR) (.slice AE r.entries.length cE) from ⟨⟨AR, cR, rfl, hlR, hoR⟩, ⟨AE, cE, rfl, hlE, hoE⟩⟩)
  clear hI hO hM hoR hoE
  go_enter Tryz.func165, Tryz.ntmps165
  go_wp2_with (first
    | (refine wpList_load_arr rfl 83 _ rfl bi 8 rfl (recVal r (.slice AR r.rows.length cR) (.slice AE r.entries.length cE)) _ hrg.out Tryz.underlying83 rfl (by kernel_rfl) ?_)
    | (go_at_call 172
       refine (iput_ok bi pn os og news mk 3 pv bv r _ _ A j c rcs at_ done .nilIface B0 b lim count S T now k D k0 r _ _ _ HI.out HO.out hB0 hj HM.out HR.out hok hk hlen hu hk0 hg0 hlast hg1 hc0 hc1).mono ?_
       rintro e w1 ⟨rfl, A', c', rv', ev', hI1, hO1, hM1, hF1⟩
       clear hcI hrg
       have hcI := fun i => hI1.cell i
       have hfI := fun i => hI1.frozen i
       simp only [instC] at hcI
       have hl1 := hI1.lt
       have HI1 := Lib.hid hI1
       have HO1 := Lib.hid hO1
       have HM1 := Lib.hid hM1
       have HF1 := Lib.hid hF1
       clear hI1 hO1 hM1 hF1)
    | (go_at_call 164
       refine (over_no bi 4 _ (by go_simp) (by decide)).mono ?_
       rintro e w2 ⟨rfl, rfl⟩))
  have hI4 := HI1.out.sets [(5, .int .i64 4)]
  simp only [asets, instC, List.setIfInBounds_toArray, List.set_cons_succ, List.set_cons_zero] at hI4
  refine bp_name (wset bi [(5, .int .i64 4)] w1) rfl ?_
  intro V4 HV4
  have hF4 : Fr [bi] w1 V4 := by rw [← HV4.out]; exact Fr.sets bi _ w1
  rw [HV4.out] at hI4
  clear HV4 hcI hfI
  have hM4 := HM1.out.fr hF4 (HM1.out.off HI1.out (by decide) (by decide) (by decide) (by decide) (by decide) (by decide) (by decide) (by decide))
  have hO4 := hF4.own HO1.out (freeOf_one HI1.out (by decide))
  have hFF := HF1.out.trans (hF4.mono (by intro g hg; simp at hg; simp [hg]))
  go_ret
  exact ⟨rfl, A', c', rv', ev', hI4, hO4, hM4, hFF⟩
set_option maxRecDepth 100000 in
set_option maxHeartbeats 2000000 in
theorem fwd_swap1 (bi : Nat) (pn : Nat) (os og news : Int) (mk : Value) (pv bv : Value) (r : Rl.Rec) (rv ev : Value) (g c : Nat) (xs xg : Int) (at_ : Int) (done : Bool)
    (b : MB) (lim : Rl.Limits) (count : Int) (S : List SlotV) (T : List Rl.Pg) (now : Int) (k : Nat) (D : DataW Unit) (w : World)
    (hI : Blk w bi 257 (instC pn os og news mk 4 pv bv r rv ev (.slice (some ⟨g, 0, none⟩) 1 c) at_ done .nilIface)) (B0 : Nat) (hO : w.ownsRow B0 55 2 (.slice (some ⟨g, 0, none⟩) 1 c) 1 [.int .i64 xs, .int .i64 xg])
    (hM : MemAt w b lim count S T now k D) (hk : pn < T.length) (hlen : T.length ≤ 256) (hu : T[pn].used = true) (hs : T[pn].head = ⟨os, og⟩) (hc0 : 0 ≤ count) (hc1 : count ≤ 1099511627776) :
    Calls Tryz.prog 165 #[.pointer (some ⟨bi, 0, none⟩), .pointer (some ⟨b.m, 0, none⟩)] w fun e w' => e = .returned (.bool true) ∧
      Blk w' bi 257 (instC pn os og news mk 7 pv bv r rv ev (.slice (some ⟨g, 0, none⟩) 1 c) at_ true .nilIface) ∧ w'.ownsRow B0 55 2 (.slice (some ⟨g, 0, none⟩) 1 c) 1 [.int .i64 xs, .int .i64 xg] ∧
      MemAt w' b lim (count + 1) S (T.set pn ⟨true, ⟨xs, xg⟩⟩) now k D ∧ Fr (bi :: b.F) w w' := by
  have hlt := hI.lt
  have hcI := fun i => hI.cell i
  simp only [instC] at hcI
  have HI := Lib.hid hI
  have HM := Lib.hid hM
  have hq0 : w.cell? ⟨g, 0, none⟩ = some (.int .i64 xs) := hO.cellAt 0 (by decide)
  have hq1 : w.cell? ⟨g, 1, none⟩ = some (.int .i64 xg) := hO.cellAt 1 (by decide)
  have hg := (hO.lt g rfl).2
  have hw0 : IntKind.i64.wrap 0 = (0 : Int) := rfl
  have hgF : g ∉ b.F := fun h => by
    obtain ⟨cs, hb⟩ := own_blk (g := g) hO (by simp [Value.ownBlock])
    exact hM.freeF _ (by decide) (by decide) (by decide) (by decide) g h _ _ hb
  have HO := Lib.hid hO
  clear hI hM hO
  have hnF := (HM.out.off HI.out (by decide) (by decide) (by decide) (by decide) (by decide) (by decide) (by decide) (by decide)).notF
  go_enter Tryz.func165, Tryz.ntmps165
  go_wp2_with fail
  refine wp_region_head 28 (fun w' => Fr b.F w w') (by kernel_rfl) (by kernel_rfl) ?_
  (refine HW.q (i := 0) rfl (by kernel_rfl) (fun _ _ _ _ h => h) ?_ ?_; (focus ((try dsimp only); exact (by repeat' (first | (with_reducible exact Fr.refl _ _) | (with_reducible assumption) | (with_reducible refine Fr.drew ?_) | (with_reducible refine Fr.drewN ?_ _) | (with_reducible refine Fr.alloc ?_ _))))); intro K hK; go_simp; first | (refine hK _ ?_; clear hK K) | (refine ⟨_, fun _ _ => rfl, hK _ ?_⟩; clear hK K))
  (refine HW.q (i := 1) rfl (by kernel_rfl) (fun _ _ _ _ h => h) ?_ ?_; (focus ((try dsimp only); exact (by repeat' (first | (with_reducible exact Fr.refl _ _) | (with_reducible assumption) | (with_reducible refine Fr.drew ?_) | (with_reducible refine Fr.drewN ?_ _) | (with_reducible refine Fr.alloc ?_ _))))); intro K hK; go_simp; first | (refine hK _ ?_; clear hK K) | (refine ⟨_, fun _ _ => rfl, hK _ ?_⟩; clear hK K))
  (refine HW.q (i := 2) rfl (by kernel_rfl) (fun _ _ _ _ h => h) ?_ ?_; (focus ((try dsimp only); exact (by repeat' (first | (with_reducible exact Fr.refl _ _) | (with_reducible assumption) | (with_reducible refine Fr.drew ?_) | (with_reducible refine Fr.drewN ?_ _) | (with_reducible refine Fr.alloc ?_ _))))); intro K hK; go_simp; first | (refine hK _ ?_; clear hK K) | (refine ⟨_, fun _ _ => rfl, hK _ ?_⟩; clear hK K))
  (refine HW.q (i := 3) rfl (by kernel_rfl) (fun _ _ _ _ h => h) ?_ ?_; (focus ((try dsimp only); exact (by repeat' (first | (with_reducible exact Fr.refl _ _) | (with_reducible assumption) | (with_reducible refine Fr.drew ?_) | (with_reducible refine Fr.drewN ?_ _) | (with_reducible refine Fr.alloc ?_ _))))); intro K hK; go_simp; first | (refine hK _ ?_; clear hK K) | (refine ⟨_, fun _ _ => rfl, hK _ ?_⟩; clear hK K))
  (refine HW.q (i := 4) rfl (by kernel_rfl) (fun _ _ _ _ h => h) ?_ ?_; (focus ((try dsimp only); exact (by repeat' (first | (with_reducible exact Fr.refl _ _) | (with_reducible assumption) | (with_reducible refine Fr.drew ?_) | (with_reducible refine Fr.drewN ?_ _) | (with_reducible refine Fr.alloc ?_ _))))); intro K hK; go_simp; first | (refine hK _ ?_; clear hK K) | (refine ⟨_, fun _ _ => rfl, hK _ ?_⟩; clear hK K))
  (refine HW.q (i := 6) rfl (by kernel_rfl) (fun _ _ _ _ h => h) ?_ ?_; (focus ((try dsimp only); exact (by repeat' (first | (with_reducible exact Fr.refl _ _) | (with_reducible assumption) | (with_reducible refine Fr.drew ?_) | (with_reducible refine Fr.drewN ?_ _) | (with_reducible refine Fr.alloc ?_ _))))); intro K hK; go_simp; first | (refine hK _ ?_; clear hK K) | (refine ⟨_, fun _ _ => rfl, hK _ ?_⟩; clear hK K))
  (refine HW.q (i := 7) rfl (by kernel_rfl) (fun _ _ _ _ h => h) ?_ ?_; (focus ((try dsimp only); exact (by repeat' (first | (with_reducible exact Fr.refl _ _) | (with_reducible assumption) | (with_reducible refine Fr.drew ?_) | (with_reducible refine Fr.drewN ?_ _) | (with_reducible refine Fr.alloc ?_ _))))); intro K hK; go_simp; first | (refine hK _ ?_; clear hK K) | (refine ⟨_, fun _ _ => rfl, hK _ ?_⟩; clear hK K))
  (refine HW.q (i := 8) rfl (by kernel_rfl) (fun _ _ _ _ h => h) ?_ ?_; (focus ((try dsimp only); exact (by repeat' (first | (with_reducible exact Fr.refl _ _) | (with_reducible assumption) | (with_reducible refine Fr.drew ?_) | (with_reducible refine Fr.drewN ?_ _) | (with_reducible refine Fr.alloc ?_ _))))); intro K hK; go_simp; first | (refine hK _ ?_; clear hK K) | (refine ⟨_, fun _ _ => rfl, hK _ ?_⟩; clear hK K))
  (refine HW.q (i := 9) rfl (by kernel_rfl) (fun _ _ _ _ h => h) ?_ ?_; (focus ((try dsimp only); exact (by repeat' (first | (with_reducible exact Fr.refl _ _) | (with_reducible assumption) | (with_reducible refine Fr.drew ?_) | (with_reducible refine Fr.drewN ?_ _) | (with_reducible refine Fr.alloc ?_ _))))); intro K hK; go_simp; first | (refine hK _ ?_; clear hK K) | (refine ⟨_, fun _ _ => rfl, hK _ ?_⟩; clear hK K))
  (refine HW.q (i := 11) rfl (by kernel_rfl) (fun _ _ _ _ h => h) ?_ ?_; (focus ((try dsimp only); exact (by repeat' (first | (with_reducible exact Fr.refl _ _) | (with_reducible assumption) | (with_reducible refine Fr.drew ?_) | (with_reducible refine Fr.drewN ?_ _) | (with_reducible refine Fr.alloc ?_ _))))); intro K hK; go_simp; first | (refine hK _ ?_; clear hK K) | (refine ⟨_, fun _ _ => rfl, hK _ ?_⟩; clear hK K))
  (refine HW.q (i := 12) rfl (by kernel_rfl) (fun _ _ _ _ h => h) ?_ ?_; (focus ((try dsimp only); exact (by repeat' (first | (with_reducible exact Fr.refl _ _) | (with_reducible assumption) | (with_reducible refine Fr.drew ?_) | (with_reducible refine Fr.drewN ?_ _) | (with_reducible refine Fr.alloc ?_ _))))); intro K hK; go_simp; first | (refine hK _ ?_; clear hK K) | (refine ⟨_, fun _ _ => rfl, hK _ ?_⟩; clear hK K))
  (refine HW.q (i := 13) rfl (by kernel_rfl) (fun _ _ _ _ h => h) ?_ ?_; (focus ((try dsimp only); exact (by repeat' (first | (with_reducible exact Fr.refl _ _) | (with_reducible assumption) | (with_reducible refine Fr.drew ?_) | (with_reducible refine Fr.drewN ?_ _) | (with_reducible refine Fr.alloc ?_ _))))); intro K hK; go_simp; first | (refine hK _ ?_; clear hK K) | (refine ⟨_, fun _ _ => rfl, hK _ ?_⟩; clear hK K))
  (refine HW.q (i := 15) rfl (by kernel_rfl) (fun _ _ _ _ h => h) ?_ ?_; (focus ((try dsimp only); exact (by repeat' (first | (with_reducible exact Fr.refl _ _) | (with_reducible assumption) | (with_reducible refine Fr.drew ?_) | (with_reducible refine Fr.drewN ?_ _) | (with_reducible refine Fr.alloc ?_ _))))); intro K hK; go_simp; first | (refine hK _ ?_; clear hK K) | (refine ⟨_, fun _ _ => rfl, hK _ ?_⟩; clear hK K))
  (refine HW.q (i := 16) rfl (by kernel_rfl) (fun _ _ _ _ h => h) ?_ ?_; (focus ((try dsimp only); exact (by repeat' (first | (with_reducible exact Fr.refl _ _) | (with_reducible assumption) | (with_reducible refine Fr.drew ?_) | (with_reducible refine Fr.drewN ?_ _) | (with_reducible refine Fr.alloc ?_ _))))); intro K hK; go_simp; first | (refine hK _ ?_; clear hK K) | (refine ⟨_, fun _ _ => rfl, hK _ ?_⟩; clear hK K))
  (refine HW.q (i := 17) rfl (by kernel_rfl) (fun _ _ _ _ h => h) ?_ ?_; (focus ((try dsimp only); exact (by repeat' (first | (with_reducible exact Fr.refl _ _) | (with_reducible assumption) | (with_reducible refine Fr.drew ?_) | (with_reducible refine Fr.drewN ?_ _) | (with_reducible refine Fr.alloc ?_ _))))); intro K hK; go_simp; first | (refine hK _ ?_; clear hK K) | (refine ⟨_, fun _ _ => rfl, hK _ ?_⟩; clear hK K))
  (refine HW.q (i := 5) rfl (by kernel_rfl) (fun _ _ _ _ h => h) ?_ ?_; (focus ((try dsimp only); exact (by repeat' (first | (with_reducible exact Fr.refl _ _) | (with_reducible assumption) | (with_reducible refine Fr.drew ?_) | (with_reducible refine Fr.drewN ?_ _) | (with_reducible refine Fr.alloc ?_ _))))); intro K hK; go_simp; apply Exists.intro; refine ⟨fun w2 hw2 => ?_, hK _ ?_⟩; (focus (obtain ⟨hc2, hf2⟩ := frcell hw2; go_simp; first | done | rfl)); clear hK K)
  (refine HW.q (i := 10) rfl (by kernel_rfl) (fun _ _ _ _ h => h) ?_ ?_; (focus ((try dsimp only); exact (by repeat' (first | (with_reducible exact Fr.refl _ _) | (with_reducible assumption) | (with_reducible refine Fr.drew ?_) | (with_reducible refine Fr.drewN ?_ _) | (with_reducible refine Fr.alloc ?_ _))))); intro K hK; go_simp; apply Exists.intro; refine ⟨fun w2 hw2 => ?_, hK _ ?_⟩; (focus (obtain ⟨hc2, hf2⟩ := frcell hw2; go_simp; first | done | rfl)); clear hK K)
  (refine HW.q (i := 14) rfl (by kernel_rfl) (fun _ _ _ _ h => h) ?_ ?_; (focus ((try dsimp only); exact (by repeat' (first | (with_reducible exact Fr.refl _ _) | (with_reducible assumption) | (with_reducible refine Fr.drew ?_) | (with_reducible refine Fr.drewN ?_ _) | (with_reducible refine Fr.alloc ?_ _))))); intro K hK; go_simp; apply Exists.intro; refine ⟨fun w2 hw2 => ?_, hK _ ?_⟩; (focus (obtain ⟨hc2, hf2⟩ := frcell hw2; go_simp; first | done | rfl)); clear hK K)
  (refine HW.q (i := 18) rfl (by kernel_rfl) (fun _ _ _ _ h => h) ?_ ?_; (focus ((try dsimp only); exact (by repeat' (first | (with_reducible exact Fr.refl _ _) | (with_reducible assumption) | (with_reducible refine Fr.drew ?_) | (with_reducible refine Fr.drewN ?_ _) | (with_reducible refine Fr.alloc ?_ _))))); intro K hK; go_simp; apply Exists.intro; refine ⟨fun w2 hw2 => ?_, hK _ ?_⟩; (focus (obtain ⟨hc2, hf2⟩ := frcell hw2; go_simp; first | done | rfl)); clear hK K)
  (refine HW.q (i := 19) rfl (by kernel_rfl) (fun _ _ _ _ h => h) ?_ ?_; (focus ((try dsimp only); exact (by repeat' (first | (with_reducible exact Fr.refl _ _) | (with_reducible assumption) | (with_reducible refine Fr.drew ?_) | (with_reducible refine Fr.drewN ?_ _) | (with_reducible refine Fr.alloc ?_ _))))); intro K hK; go_simp; first | (refine hK _ ?_; clear hK K) | (refine ⟨_, fun _ _ => rfl, hK _ ?_⟩; clear hK K))
  (refine HW.q (i := 20) rfl (by kernel_rfl) (fun _ _ _ _ h => h) ?_ ?_; (focus ((try dsimp only); exact (by repeat' (first | (with_reducible exact Fr.refl _ _) | (with_reducible assumption) | (with_reducible refine Fr.drew ?_) | (with_reducible refine Fr.drewN ?_ _) | (with_reducible refine Fr.alloc ?_ _))))); intro K hK; go_simp; first | (refine hK _ ?_; clear hK K) | (refine ⟨_, fun _ _ => rfl, hK _ ?_⟩; clear hK K))
  (refine HW.q (i := 21) rfl (by kernel_rfl) (fun _ _ _ _ h => h) ?_ ?_; (focus ((try dsimp only); exact (by repeat' (first | (with_reducible exact Fr.refl _ _) | (with_reducible assumption) | (with_reducible refine Fr.drew ?_) | (with_reducible refine Fr.drewN ?_ _) | (with_reducible refine Fr.alloc ?_ _))))); intro K hK; go_simp; first | (refine hK _ ?_; clear hK K) | (refine ⟨_, fun _ _ => rfl, hK _ ?_⟩; clear hK K))
  (refine HW.q (i := 22) rfl (by kernel_rfl) (fun _ _ _ _ h => h) ?_ ?_; (focus ((try dsimp only); exact (by repeat' (first | (with_reducible exact Fr.refl _ _) | (with_reducible assumption) | (with_reducible refine Fr.drew ?_) | (with_reducible refine Fr.drewN ?_ _) | (with_reducible refine Fr.alloc ?_ _))))); intro K hK; go_simp; apply Exists.intro; refine ⟨fun w2 hw2 => ?_, hK _ ?_⟩; (focus (obtain ⟨hc2, hf2⟩ := frcell hw2; go_simp; first | done | rfl)); clear hK K)
  refine HW.solo (i := 23) rfl (by kernel_rfl) (by kernel_rfl) ?_
  intro K hK
  go_simp
  go_at_call 173
  refine (mswap_ok b lim count S T now k D pn os og xs xg _ (HM.out.below (by repeat' (first | (with_reducible exact Below.refl _ _) | (with_reducible assumption) | (with_reducible refine Below.alloc ?_ ?_ _) | (with_reducible refine below_drewN ?_ _) | (with_reducible refine Below.drew ?_) | (with_reducible refine Below.setCell ?_ ?_ _) | go_size))) hk hlen hu hs hc0 hc1).mono ?_
  rintro e w1 ⟨rfl, hM1, hF1⟩
  have hF1 : Fr b.F w w1 := ((Fr.refl b.F w).drew).trans hF1
  refine hK _ _ (by (try dsimp only); exact hF1) ?_
  clear hK K hcI
  (refine HW.q (i := 24) rfl (by kernel_rfl) (fun _ _ _ _ h => h) ?_ ?_; (focus ((try dsimp only); exact (by repeat' (first | (with_reducible exact Fr.refl _ _) | (with_reducible assumption) | (with_reducible refine Fr.drew ?_) | (with_reducible refine Fr.drewN ?_ _) | (with_reducible refine Fr.alloc ?_ _))))); intro K hK; go_simp; first | (refine hK _ ?_; clear hK K) | (refine ⟨_, fun _ _ => rfl, hK _ ?_⟩; clear hK K))
  (refine HW.q (i := 25) rfl (by kernel_rfl) (fun _ _ _ _ h => h) ?_ ?_; (focus ((try dsimp only); exact (by repeat' (first | (with_reducible exact Fr.refl _ _) | (with_reducible assumption) | (with_reducible refine Fr.drew ?_) | (with_reducible refine Fr.drewN ?_ _) | (with_reducible refine Fr.alloc ?_ _))))); intro K hK; go_simp; first | (refine hK _ ?_; clear hK K) | (refine ⟨_, fun _ _ => rfl, hK _ ?_⟩; clear hK K))
  (refine HW.q (i := 26) rfl (by kernel_rfl) (fun _ _ _ _ h => h) ?_ ?_; (focus ((try dsimp only); exact (by repeat' (first | (with_reducible exact Fr.refl _ _) | (with_reducible assumption) | (with_reducible refine Fr.drew ?_) | (with_reducible refine Fr.drewN ?_ _) | (with_reducible refine Fr.alloc ?_ _))))); intro K hK; go_simp; first | (refine hK _ ?_; clear hK K) | (refine ⟨_, fun _ _ => rfl, hK _ ?_⟩; clear hK K))
  (refine HW.q (i := 27) rfl (by kernel_rfl) (fun _ _ _ _ h => h) ?_ ?_; (focus ((try dsimp only); exact (by repeat' (first | (with_reducible exact Fr.refl _ _) | (with_reducible assumption) | (with_reducible refine Fr.drew ?_) | (with_reducible refine Fr.drewN ?_ _) | (with_reducible refine Fr.alloc ?_ _))))); intro K hK; go_simp; first | (refine hK _ ?_; clear hK K) | (refine ⟨_, fun _ _ => rfl, hK _ ?_⟩; clear hK K))
  refine HW.done (by kernel_rfl) ?_
  simp only [List.drop_succ_cons, List.drop_zero]
  have HI1 := Lib.hid (hF1.blk HI.out hnF)
  have HO1 := Lib.hid (ownsRow_fr HO.out hF1 (by simpa [Value.ownBlock] using hgF))
  have HM1 := Lib.hid hM1
  have HF1 := Lib.hid hF1
  have hl1 := HI1.out.lt
  have hcI := fun i => HI1.out.cell i
  have hfI := fun i => HI1.out.frozen i
  simp only [instC] at hcI
  clear hM1 hF1 hq0 hq1 hw0
  go_wp2_with (go_at_call 164
               refine (over_yes bi _ (by go_simp)).mono ?_
               rintro e w2 ⟨rfl, rfl⟩)
  have hI4 := HI1.out.sets [(5, .int .i64 7), (25, .bool true)]
  simp only [asets, instC, List.setIfInBounds_toArray, List.set_cons_succ, List.set_cons_zero] at hI4
  refine bp_name (wset bi [(5, .int .i64 7), (25, .bool true)] w1) rfl ?_
  intro V4 HV4
  have hF4 : Fr [bi] w1 V4 := by rw [← HV4.out]; exact Fr.sets bi _ w1
  rw [HV4.out] at hI4
  clear HV4 hcI hfI
  have hM4 := HM1.out.fr hF4 (HM1.out.off HI1.out (by decide) (by decide) (by decide) (by decide) (by decide) (by decide) (by decide) (by decide))
  have hO4 := hF4.own HO1.out (freeOf_one HI1.out (by decide))
  have hFF := (HF1.out.mono (G := bi :: b.F) (by intro g hg; simp [hg])).trans (hF4.mono (by intro g hg; simp at hg; simp [hg]))
  go_ret
  exact ⟨rfl, hI4, hO4, hM4, hFF⟩
end Go.Proofs.YthidclcliflhkaaGreat
end
section
open Go Go.RowKit
namespace Go.Proofs.YthidclcliflhkaaGreat

def aboveZ' : Array Value := #[.bool false, .int .i64 0, .int .i64 0, .int .i64 0, .string ⟨#[]⟩, .string ⟨#[]⟩, .bool false, .int .i64 0, .slice none 0 0, .bool false, .int .i64 0, .int .i64 0, .string ⟨#[]⟩]
set_option maxRecDepth 100000 in
set_option maxHeartbeats 400000 in
theorem again_ok (bt : Nat) (n : Int) (bg : Bool) (kind : Int) (key val : ByteArray) (wr : Bool) (rs : ByteArray) (re nx : Value) (w : World) (hT : Blk w bt 66 (thrC n bg kind key val wr rs re nx)) :
    Calls Tryz.prog 44 #[.pointer (some ⟨bt, 0, none⟩)] w fun e w' => e = .returned (.bool false) ∧ ∃ bl bq bx, Walks w' bt 0 n bg kind key val wr rs re bl bq bx ∧ w.heap.size ≤ bl ∧ Fr [bt] w w' := by
  have hlt := hT.lt
  have hT2 := hT.setCs aboveZ'.toList w 12
  have hF2 : Fr [bt] w (w.setCells bt 12 aboveZ'.toList) := Fr.setCs _ _ _ (Fr.refl _ _) (.inl (by simp))
  have hT2 : Blk (w.setCells bt 12 aboveZ'.toList) bt 66 (thrC n bg kind key val wr rs re nx) := hT2
  generalize hV : w.setCells bt 12 aboveZ'.toList = V at hT2 hF2
  simp only [aboveZ', World.setCells, Nat.reduceAdd] at hV
  have HV := Lib.hid hV
  have hc := fun i => hT.cell i
  have hf := fun i => hT.frozen i
  simp only [thrC] at hc
  clear hV hT
  go_enter Tryz.func44, Tryz.ntmps44
  go_wp2_with fail
  rw [HV.out]
  refine (walk_ok bt 0 n bg kind key val wr rs re nx V hT2).mono ?_
  rintro e w1 ⟨rfl, bl, bq, bx, hW, hge, hF⟩
  go_wp2_with fail
  go_ret
  exact ⟨rfl, bl, bq, bx, hW, Nat.le_trans hF2.size hge, hF2.trans hF⟩
set_option maxRecDepth 100000 in
set_option maxHeartbeats 400000 in
theorem bump1_ok (bt bx ba : Nat) (n : Int) (bg : Bool) (kind : Int) (key val : ByteArray) (wr : Bool) (rs : ByteArray) (re nx : Value) (at_ : Int) (b : MB) (lim : Rl.Limits) (count : Int) (S : List SlotV) (T : List Rl.Pg) (now : Int) (k : Nat) (D : DataW Unit) (w : World)
    (hT : Blk w bt 66 (thrC n bg kind key val wr rs re nx)) (hX : Blk w bx 25 #[.pointer (some ⟨bt, 0, none⟩)]) (hA : Blk w ba 3 #[.int .i64 at_]) (hM : MemAt w b lim count S T now k D)
    (ht : 0 ≤ n) (ht2 : n < lim.threads) (ht3 : lim.threads ≤ 64) (ha : 1 ≤ at_) (ha2 : at_ ≤ now) (hn : now ≤ 1099511627776) (hin : Maps.has D (.int .i64 n) = false) (hk : k < maxLen) (hc0 : 0 ≤ count) (hc1 : count ≤ 1099511627776) :
    Calls Tryz.prog 42 #[.pointer (some ⟨b.m, 0, none⟩), .pointer (some ⟨bx, 0, none⟩), .pointer (some ⟨ba, 0, none⟩)] w fun e w' => e = .returned (.bool false) ∧ ∃ bl bq bx, Walks w' bt 0 n bg kind key val wr rs re bl bq bx ∧ w.heap.size ≤ bl ∧
      MemAt w' b lim (count + 1) S T now (k + 1) (D.put (.int .i64 n) (.lit (.int .i64 at_))) ∧ Fr (bt :: b.F) w w' := by
  have hO := hM.off hT (by decide) (by decide) (by decide) (by decide) (by decide) (by decide) (by decide) (by decide)
  have hOX := hM.off hX (by decide) (by decide) (by decide) (by decide) (by decide) (by decide) (by decide) (by decide)
  have hcT := fun i => hT.cell i
  have hcX := fun i => hX.cell i
  have hcA := fun i => hA.cell i
  simp only [thrC] at hcT
  have hlt := hT.lt
  have hltx := hX.lt
  have hlta := hA.lt
  have HT := Lib.hid hT
  have HX := Lib.hid hX
  have HM := Lib.hid hM
  clear hT hX hA hM
  go_enter Tryz.func42, Tryz.ntmps42
  go_wp2_with fail
  refine wp_region_head 6 (fun w' => Below w.heap.size w w') (by kernel_rfl) (by kernel_rfl) ?_
  (refine HW.q (i := 0) rfl (by kernel_rfl) (fun _ _ _ _ h => h) ?_ ?_; (focus ((try dsimp only); exact (by repeat' (first | (with_reducible exact Below.refl _ _) | (with_reducible assumption) | (with_reducible refine Below.alloc ?_ ?_ _) | (with_reducible refine below_drewN ?_ _) | (with_reducible refine Below.drew ?_) | (with_reducible refine Below.setCell ?_ ?_ _) | go_size)))); intro K hK; go_simp; first | (refine hK _ ?_; clear hK K) | (refine ⟨_, fun _ _ => rfl, hK _ ?_⟩; clear hK K))
  (refine HW.q (i := 1) rfl (by kernel_rfl) (fun _ _ _ _ h => h) ?_ ?_; (focus ((try dsimp only); exact (by repeat' (first | (with_reducible exact Below.refl _ _) | (with_reducible assumption) | (with_reducible refine Below.alloc ?_ ?_ _) | (with_reducible refine below_drewN ?_ _) | (with_reducible refine Below.drew ?_) | (with_reducible refine Below.setCell ?_ ?_ _) | go_size)))); intro K hK; go_simp; apply Exists.intro; refine ⟨fun w2 hw2 => ?_, hK _ ?_⟩; (focus (obtain ⟨hc2, hf2⟩ := bcell hw2; go_simp; first | done | rfl)); clear hK K)
  (refine HW.q (i := 2) rfl (by kernel_rfl) (fun _ _ _ _ h => h) ?_ ?_; (focus ((try dsimp only); exact (by repeat' (first | (with_reducible exact Below.refl _ _) | (with_reducible assumption) | (with_reducible refine Below.alloc ?_ ?_ _) | (with_reducible refine below_drewN ?_ _) | (with_reducible refine Below.drew ?_) | (with_reducible refine Below.setCell ?_ ?_ _) | go_size)))); intro K hK; go_simp; first | (refine hK _ ?_; clear hK K) | (refine ⟨_, fun _ _ => rfl, hK _ ?_⟩; clear hK K))
  (refine HW.q (i := 3) rfl (by kernel_rfl) (fun _ _ _ _ h => h) ?_ ?_; (focus ((try dsimp only); exact (by repeat' (first | (with_reducible exact Below.refl _ _) | (with_reducible assumption) | (with_reducible refine Below.alloc ?_ ?_ _) | (with_reducible refine below_drewN ?_ _) | (with_reducible refine Below.drew ?_) | (with_reducible refine Below.setCell ?_ ?_ _) | go_size)))); intro K hK; go_simp; first | (refine hK _ ?_; clear hK K) | (refine ⟨_, fun _ _ => rfl, hK _ ?_⟩; clear hK K))
  (refine HW.q (i := 4) rfl (by kernel_rfl) (fun _ _ _ _ h => h) ?_ ?_; (focus ((try dsimp only); exact (by repeat' (first | (with_reducible exact Below.refl _ _) | (with_reducible assumption) | (with_reducible refine Below.alloc ?_ ?_ _) | (with_reducible refine below_drewN ?_ _) | (with_reducible refine Below.drew ?_) | (with_reducible refine Below.setCell ?_ ?_ _) | go_size)))); intro K hK; go_simp; apply Exists.intro; refine ⟨fun w2 hw2 => ?_, hK _ ?_⟩; (focus (obtain ⟨hc2, hf2⟩ := bcell hw2; go_simp; first | done | rfl)); clear hK K)
  (refine HW.q (i := 5) rfl (by kernel_rfl) (fun _ _ _ _ h => h) ?_ ?_; (focus ((try dsimp only); exact (by repeat' (first | (with_reducible exact Below.refl _ _) | (with_reducible assumption) | (with_reducible refine Below.alloc ?_ ?_ _) | (with_reducible refine below_drewN ?_ _) | (with_reducible refine Below.drew ?_) | (with_reducible refine Below.setCell ?_ ?_ _) | go_size)))); intro K hK; go_simp; apply Exists.intro; refine ⟨fun w2 hw2 => ?_, hK _ ?_⟩; (focus (obtain ⟨hc2, hf2⟩ := bcell hw2; go_simp; first | done | rfl)); clear hK K)
  refine HW.done (by kernel_rfl) ?_
  simp only [List.drop_succ_cons, List.drop_zero]
  clear hcT hcX hcA
  go_wp2_with (first
    | (go_at_call 43
       refine (menter_ok b lim count S T now k D n at_ _ (HM.out.below (by repeat' (first | (with_reducible exact Below.refl _ _) | (with_reducible assumption) | (with_reducible refine Below.alloc ?_ ?_ _) | (with_reducible refine below_drewN ?_ _) | (with_reducible refine Below.drew ?_) | (with_reducible refine Below.setCell ?_ ?_ _) | go_size))) ht ht2 ht3 ha ha2 hn hin hk hc0 hc1).mono ?_
       rintro e w1 ⟨rfl, hM1, hF1⟩
       have HT1 := Lib.hid (hF1.blk (HT.out.drew) hO.notF)
       have HX1 := Lib.hid (hF1.blk (HX.out.drew) hOX.notF)
       have HF1 : Fr b.F w w1 := ((Fr.refl b.F w).drew).trans hF1
       have HM1 := Lib.hid hM1
       have hcX := fun i => HX1.out.cell i
       clear hF1 hM1)
    | (go_at_call 44
       refine (again_ok bt n bg kind key val wr rs re nx _ HT1.out).mono ?_
       rintro e w2 ⟨rfl, bl, bq, bx2, hW, hge, hF2⟩)
    | go_in)
  go_ret
  refine ⟨rfl, bl, bq, bx2, hW, Nat.le_trans HF1.size hge, HM1.out.fr hF2 (HM1.out.off HT1.out (by decide) (by decide) (by decide) (by decide) (by decide) (by decide) (by decide) (by decide)), (HF1.mono (by intro g hg; simp [hg])).trans (hF2.mono (by simp))⟩
end Go.Proofs.YthidclcliflhkaaGreat
end
