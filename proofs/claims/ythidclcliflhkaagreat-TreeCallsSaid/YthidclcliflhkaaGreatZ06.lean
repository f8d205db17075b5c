/- The memory's boxes together. What the memory's functions compute: contracts. An append of what was just written out. What the table's and the memory's functions compute: contracts: Pages. What the memory's functions compute: contracts: Pages; the loader's beginning. -/
import Derived.Test.YthidclcliflhkaaGreatZ04
import Derived.Test.YthidclcliflhkaaGreatZ05
section
open Go Go.RowKit
namespace Go.Proofs.YthidclcliflhkaaGreat

structure MB where
  m : Nat
  a : Nat
  s : Nat
  t : Nat
  p : Nat
  c : Nat
  i : Nat
def memCells (b : MB) (lim : Rl.Limits) (count : Int) : Array Value :=
  #[.int .i64 count, .int .i64 lim.slots, .int .i64 lim.pages, .int .i64 lim.threads, .int .i64 lim.rows, .int .i64 lim.chain, .int .i64 lim.count, .pointer (some ⟨b.a, 0, none⟩), .pointer (some ⟨b.t, 0, none⟩), .pointer (some ⟨b.c, 0, none⟩)]
/-- The memory, as it lies. -/
structure MemAt (w : World) (b : MB) (lim : Rl.Limits) (count : Int) (S : List SlotV) (T : List Rl.Pg) (now : Int) (k : Nat) (D : DataW Unit) : Prop where
  m : Blk w b.m 79 (memCells b lim count)
  a : ArenaAt w b.a b.s S lim.count
  t : TableAt w b.t b.p T
  c : ClockAt w b.c b.i now lim.count lim.threads k D
section
variable {w w1 : World} {b : MB} {lim : Rl.Limits} {count : Int} {S : List SlotV} {T : List Rl.Pg} {now : Int} {k : Nat} {D : DataW Unit}
theorem freeOf_nil (w : World) (t : TypeId) : FreeOf w [] t := fun _ h => absurd h (List.not_mem_nil)
theorem ClockAt.mapLt {bc bi : Nat} {last threads : Int} (h : ClockAt w bc bi now last threads k D) : bi < w.heap.size := h.m.lt
theorem map_ne {bi g : Nat} {t : TypeId} {cs : Array Value} {P : Program} {kt : TypeId} {R : Value → Option (DataW Unit × List MemPlace)} (h : w.ownsMap P kt R bi k D) (hb : Blk w g t cs) : bi ≠ g := by
  rintro rfl
  obtain ⟨es, clock, hh, _⟩ := h
  unfold Blk at hb
  rw [hh] at hb; cases hb
theorem MemAt.below (h : MemAt w b lim count S T now k D) (hb : Below w.heap.size w w1) : MemAt w1 b lim count S T now k D :=
  have hf := Fr.of_below hb []
  ⟨hf.blk h.m (by simp), h.a.fr hf (by simp) (by simp) (freeOf_nil _ _) (freeOf_nil _ _), h.t.fr hf (by simp) (by simp), h.c.fr hf (by simp) (by simp)⟩
/-- Blocks that are none of the memory's, and hold no rows or entries, turned. -/
structure OffMem (w : World) (b : MB) (F : List Nat) : Prop where
  m : b.m ∉ F
  a : b.a ∉ F
  s : b.s ∉ F
  t : b.t ∉ F
  p : b.p ∉ F
  c : b.c ∉ F
  i : b.i ∉ F
  rows : FreeOf w F 50
  ents : FreeOf w F 132
theorem MemAt.fr {F : List Nat} (h : MemAt w b lim count S T now k D) (hw : Fr F w w1) (ho : OffMem w b F) : MemAt w1 b lim count S T now k D :=
  ⟨hw.blk h.m ho.m, h.a.fr hw ho.a ho.s ho.rows ho.ents, h.t.fr hw ho.t ho.p, h.c.fr hw ho.c ho.i⟩
theorem MemAt.off {g : Nat} {t : TypeId} {cs : Array Value} (h : MemAt w b lim count S T now k D) (hb : Blk w g t cs) (h1 : t ≠ 79) (h2 : t ≠ 111) (h3 : t ≠ 120) (h4 : t ≠ 114) (h5 : t ≠ 123)
    (h6 : t ≠ 117) (h7 : t ≠ 50) (h8 : t ≠ 132) : OffMem w b [g] :=
  ⟨by simpa using (Blk.ne_ hb h.m h1).symm, by simpa using (Blk.ne_ hb h.a.a h2).symm, by simpa using (Blk.ne_ hb h.a.s h3).symm, by simpa using (Blk.ne_ hb h.t.t h4).symm, by simpa using (Blk.ne_ hb h.t.p h5).symm,
    by simpa using (Blk.ne_ hb h.c.c h6).symm, by simpa using map_ne h.c.m hb, freeOf_one hb h7.symm, freeOf_one hb h8.symm⟩
theorem MemAt.offRef {g : Nat} {cs : Array Value} (h : MemAt w b lim count S T now k D) (hb : Blk w g 55 cs) : OffMem w b [g] := h.off hb (by decide) (by decide) (by decide) (by decide) (by decide) (by decide) (by decide) (by decide)
theorem MemAt.offRec {g : Nat} {cs : Array Value} (h : MemAt w b lim count S T now k D) (hb : Blk w g 83 cs) : OffMem w b [g] := h.off hb (by decide) (by decide) (by decide) (by decide) (by decide) (by decide) (by decide) (by decide)
theorem MemAt.set (h : MemAt w b lim count S T now k D) {g : Nat} {t : TypeId} {cs : Array Value} (hb : Blk w g t cs) (o : Nat) (u : Value) (ho : OffMem w b [g]) : MemAt (w.setCell ⟨g, o, none⟩ u) b lim count S T now k D :=
  h.fr ((Fr.refl [g] w).setCell (p := ⟨g, o, none⟩) (.inl (by simp)) u) ho
theorem MemAt.tick (h : MemAt w b lim count S T now k D) : MemAt (w.setCell ⟨b.m, 0, none⟩ (.int .i64 (count + 1))) b lim (count + 1) S T now k D := by
  have hw : Fr [b.m] w (w.setCell ⟨b.m, 0, none⟩ (.int .i64 (count + 1))) := (Fr.refl _ w).setCell (p := ⟨b.m, 0, none⟩) (.inl (by simp)) _
  have e1 := Blk.ne_ h.m h.a.a (by decide)
  have e2 := Blk.ne_ h.m h.a.s (by decide)
  have e3 := Blk.ne_ h.m h.t.t (by decide)
  have e4 := Blk.ne_ h.m h.t.p (by decide)
  have e5 := Blk.ne_ h.m h.c.c (by decide)
  have e6 := map_ne h.c.m h.m
  refine ⟨h.m.set_ 0 _, h.a.fr hw (by simpa using e1.symm) (by simpa using e2.symm) (freeOf_one h.m (by decide)) (freeOf_one h.m (by decide)), h.t.fr hw (by simpa using e3.symm) (by simpa using e4.symm), h.c.fr hw (by simpa using e5.symm) (by simpa using e6)⟩
/-- The arena turned. -/
theorem MemAt.arena {S' : List SlotV} (h : MemAt w b lim count S T now k D) (ha : ArenaAt w1 b.a b.s S' lim.count) (hw : Fr [b.s] w w1) : MemAt w1 b lim count S' T now k D := by
  have e1 := Blk.ne_ h.m h.a.s (by decide)
  have e3 := Blk.ne_ h.t.t h.a.s (by decide)
  have e4 := Blk.ne_ h.t.p h.a.s (by decide)
  have e5 := Blk.ne_ h.c.c h.a.s (by decide)
  have e6 := map_ne h.c.m h.a.s
  exact ⟨hw.blk h.m (by simpa using e1), ha, h.t.fr hw (by simpa using e3) (by simpa using e4), h.c.fr hw (by simpa using e5) (by simpa using e6)⟩
/-- The table turned. -/
theorem MemAt.table {T' : List Rl.Pg} (h : MemAt w b lim count S T now k D) (ht : TableAt w1 b.t b.p T') (hw : Fr [b.p] w w1) : MemAt w1 b lim count S T' now k D := by
  have e1 := Blk.ne_ h.m h.t.p (by decide)
  have e3 := Blk.ne_ h.a.a h.t.p (by decide)
  have e4 := Blk.ne_ h.a.s h.t.p (by decide)
  have e5 := Blk.ne_ h.c.c h.t.p (by decide)
  have e6 := map_ne h.c.m h.t.p
  exact ⟨hw.blk h.m (by simpa using e1), h.a.fr hw (by simpa using e3) (by simpa using e4) (freeOf_one h.t.p (by decide)) (freeOf_one h.t.p (by decide)), ht, h.c.fr hw (by simpa using e5) (by simpa using e6)⟩
/-- The clock turned. -/
theorem MemAt.clock {now' : Int} {k' : Nat} {D' : DataW Unit} (h : MemAt w b lim count S T now k D) (hc : ClockAt w1 b.c b.i now' lim.count lim.threads k' D') {g : Nat} (hg : g = b.c ∨ g = b.i) (hw : Fr [g] w w1) : MemAt w1 b lim count S T now' k' D' := by
  rcases hg with rfl | rfl
  · have e1 := Blk.ne_ h.m h.c.c (by decide)
    have e2 := Blk.ne_ h.a.a h.c.c (by decide)
    have e3 := Blk.ne_ h.a.s h.c.c (by decide)
    have e4 := Blk.ne_ h.t.t h.c.c (by decide)
    have e5 := Blk.ne_ h.t.p h.c.c (by decide)
    exact ⟨hw.blk h.m (by simpa using e1), h.a.fr hw (by simpa using e2) (by simpa using e3) (freeOf_one h.c.c (by decide)) (freeOf_one h.c.c (by decide)), h.t.fr hw (by simpa using e4) (by simpa using e5), hc⟩
  · have e1 := map_ne h.c.m h.m
    have e2 := map_ne h.c.m h.a.a
    have e3 := map_ne h.c.m h.a.s
    have e4 := map_ne h.c.m h.t.t
    have e5 := map_ne h.c.m h.t.p
    have hfr : ∀ t, FreeOf w [b.i] t := by
      intro t g hg cs fr e
      obtain rfl : g = b.i := by simpa using hg
      obtain ⟨es, clock, hh, _⟩ := h.c.m
      rw [hh] at e; cases e
    exact ⟨hw.blk h.m (by simpa using e1.symm), h.a.fr hw (by simpa using e2.symm) (by simpa using e3.symm) (hfr _) (hfr _), h.t.fr hw (by simpa using e4.symm) (by simpa using e5.symm), hc⟩
/-- The memory's blocks that turn. -/
def MB.F (b : MB) : List Nat := [b.m, b.s, b.p, b.c, b.i]
theorem Fr.mm {g : Nat} (h : Fr [g] w w1) (hg : g ∈ b.F) : Fr b.F w w1 := h.mono (by simpa using hg)
end
theorem frcell {F : List Nat} {V w1 : World} (h : Fr F V w1) : (∀ b o, b < V.heap.size → b ∉ F → w1.cell? ⟨b, o, none⟩ = V.cell? ⟨b, o, none⟩) ∧ (∀ b o, b < V.heap.size → b ∉ F → w1.frozen? ⟨b, o, none⟩ = V.frozen? ⟨b, o, none⟩) :=
  ⟨fun b o hb hf => World.cell?_of_block (w := V) (h.block b hb hf), fun b o hb hf => World.frozen?_of_block (w := V) (h.block b hb hf)⟩
theorem at_nil (pl : ByteArray) (n : Int) (w : World) : Calls Tryz.prog 40 #[.string pl, .int .i64 n, .nilIface] w fun e w' => e = .returned .nilIface ∧ w' = w := by
  go_enter Tryz.func40, Tryz.ntmps40
  go_wp2
  go_ret
  exact ⟨rfl, rfl⟩
end Go.Proofs.YthidclcliflhkaaGreat
end
section
open Go Go.RowKit
namespace Go.Proofs.YthidclcliflhkaaGreat

set_option maxRecDepth 100000 in
theorem mbump_ok (b : MB) (lim : Rl.Limits) (count : Int) (S : List SlotV) (T : List Rl.Pg) (now : Int) (k : Nat) (D : DataW Unit) (w : World) (hM : MemAt w b lim count S T now k D) (hn : now < lim.count) (h0 : 0 ≤ now) (hl : lim.count ≤ 1099511627776) (hc0 : 0 ≤ count) (hc1 : count ≤ 1099511627776) :
    Calls Tryz.prog 34 #[.pointer (some ⟨b.m, 0, none⟩)] w fun e w' => e = .returned (.tuple #[.int .i64 (now + 1), .nilIface]) ∧ MemAt w' b lim (count + 1) S T (now + 1) k D ∧ Fr b.F w w' := by
  have hc := fun i => hM.m.cell i
  have hf := fun i => hM.m.frozen i
  have hw1 : IntKind.i64.wrap (count + 1) = count + 1 := IntWalk.i64_in _ (by omega)
  have hF0 : Fr b.F w (w.setCell ⟨b.m, 0, none⟩ (.int .i64 (count + 1))) := (Fr.refl _ w).setCell (p := ⟨b.m, 0, none⟩) (.inl (by simp [MB.F])) _
  simp only [memCells] at hc
  have HM := Lib.hid hM
  clear hM
  go_enter Tryz.func34, Tryz.ntmps34
  go_wp2_with (first
    | (go_at_call 57
       refine (cbump_ok b.c b.i now lim.count lim.threads k D _ HM.out.tick.c hn h0 hl).mono ?_
       rintro e w1 ⟨rfl, hC1, hF1⟩)
    | (go_at_call 40
       refine (at_nil _ _ _).mono ?_
       rintro e w2 ⟨rfl, rfl⟩)
    | go_in)
  go_ret2
  exact ⟨rfl, HM.out.tick.clock hC1 (.inl rfl) hF1, hF0.trans (hF1.mm (by simp [MB.F]))⟩
set_option maxRecDepth 100000 in
theorem menter_ok (b : MB) (lim : Rl.Limits) (count : Int) (S : List SlotV) (T : List Rl.Pg) (now : Int) (k : Nat) (D : DataW Unit) (t at_ : Int) (w : World) (hM : MemAt w b lim count S T now k D) (ht : 0 ≤ t) (ht2 : t < lim.threads) (ht3 : lim.threads ≤ 64) (ha : 1 ≤ at_) (ha2 : at_ ≤ now) (hn : now ≤ 1099511627776)
    (hin : Maps.has D (.int .i64 t) = false) (hk : k < maxLen) (hc0 : 0 ≤ count) (hc1 : count ≤ 1099511627776) :
    Calls Tryz.prog 43 #[.pointer (some ⟨b.m, 0, none⟩), .int .i64 t, .int .i64 at_] w fun e w' => e = .returned .nilIface ∧ MemAt w' b lim (count + 1) S T now (k + 1) (D.put (.int .i64 t) (.lit (.int .i64 at_))) ∧ Fr b.F w w' := by
  have hc := fun i => hM.m.cell i
  have hf := fun i => hM.m.frozen i
  have hw1 : IntKind.i64.wrap (count + 1) = count + 1 := IntWalk.i64_in _ (by omega)
  have hF0 : Fr b.F w (w.setCell ⟨b.m, 0, none⟩ (.int .i64 (count + 1))) := (Fr.refl _ w).setCell (p := ⟨b.m, 0, none⟩) (.inl (by simp [MB.F])) _
  simp only [memCells] at hc
  have HM := Lib.hid hM
  clear hM
  go_enter Tryz.func43, Tryz.ntmps43
  go_wp2_with (first
    | (go_at_call 62
       refine (center_ok b.c b.i now lim.count lim.threads k D t at_ _ HM.out.tick.c ht ht2 ht3 ha ha2 hn hin hk).mono ?_
       rintro e w1 ⟨rfl, hC1, hF1⟩)
    | (go_at_call 40
       refine (at_nil _ _ _).mono ?_
       rintro e w2 ⟨rfl, rfl⟩)
    | go_in)
  go_ret
  exact ⟨rfl, HM.out.tick.clock hC1 (.inr rfl) hF1, hF0.trans (hF1.mm (by simp [MB.F]))⟩
set_option maxRecDepth 100000 in
theorem mleave_ok (b : MB) (lim : Rl.Limits) (count : Int) (S : List SlotV) (T : List Rl.Pg) (now : Int) (k : Nat) (D : DataW Unit) (t : Int) (w : World) (hM : MemAt w b lim count S T now k D) (ht : 0 ≤ t) (ht2 : t < lim.threads) (ht3 : lim.threads ≤ 64)
    (hin : Maps.has D (.int .i64 t) = true) (hc0 : 0 ≤ count) (hc1 : count ≤ 1099511627776) :
    Calls Tryz.prog 114 #[.pointer (some ⟨b.m, 0, none⟩), .int .i64 t] w fun e w' => e = .returned .nilIface ∧ MemAt w' b lim (count + 1) S T now k (D.del (.int .i64 t)) ∧ Fr b.F w w' := by
  have hc := fun i => hM.m.cell i
  have hf := fun i => hM.m.frozen i
  have hw1 : IntKind.i64.wrap (count + 1) = count + 1 := IntWalk.i64_in _ (by omega)
  have hF0 : Fr b.F w (w.setCell ⟨b.m, 0, none⟩ (.int .i64 (count + 1))) := (Fr.refl _ w).setCell (p := ⟨b.m, 0, none⟩) (.inl (by simp [MB.F])) _
  simp only [memCells] at hc
  have HM := Lib.hid hM
  clear hM
  go_enter Tryz.func114, Tryz.ntmps114
  go_wp2_with (first
    | (go_at_call 138
       refine (cleave_ok b.c b.i now lim.count lim.threads k D t _ HM.out.tick.c ht ht2 ht3 hin).mono ?_
       rintro e w1 ⟨rfl, hC1, hF1⟩)
    | (go_at_call 40
       refine (at_nil _ _ _).mono ?_
       rintro e w2 ⟨rfl, rfl⟩)
    | go_in)
  go_ret
  exact ⟨rfl, HM.out.tick.clock hC1 (.inr rfl) hF1, hF0.trans (hF1.mm (by simp [MB.F]))⟩
def limVal (lim : Rl.Limits) : Array Value := #[.int .i64 lim.slots, .int .i64 lim.pages, .int .i64 lim.threads, .int .i64 lim.rows, .int .i64 lim.chain, .int .i64 lim.count]
set_option maxRecDepth 100000 in
theorem mlimits_any (b : MB) (lim : Rl.Limits) (count : Int) (w : World) (hm : Blk w b.m 79 (memCells b lim count)) :
    Calls Tryz.prog 59 #[.pointer (some ⟨b.m, 0, none⟩)] w (RetB (.agg (limVal lim)) w) := by
  have hlt := hm.lt
  have hc := fun i => hm.cell i
  simp only [memCells] at hc
  go_enter Tryz.func59, Tryz.ntmps59
  go_wp2_with fail
  have hcc := fun i => Blk.cell (Blk.new_at (X := w) (b := w.heap.size) (t := 45) (cs := limVal lim) rfl) i
  simp only [limVal] at hcc
  refine bodyPost_ret (v := .agg (limVal lim)) ?_ rfl ⟨rfl, ?_⟩
  · simp [results, Tryz.results59, go_sem, hcc, limVal]
  · exact (by repeat' (first | (with_reducible exact Below.refl _ _) | (with_reducible assumption) | (with_reducible refine Below.alloc ?_ ?_ _) | (with_reducible refine below_drewN ?_ _) | (with_reducible refine Below.drew ?_) | (with_reducible refine Below.setCell ?_ ?_ _) | go_size))
set_option maxRecDepth 100000 in
theorem mhead_any (b : MB) (lim : Rl.Limits) (count : Int) (S : List SlotV) (T : List Rl.Pg) (now : Int) (k : Nat) (D : DataW Unit) (n : Nat) (w : World) (hM : MemAt w b lim count S T now k D) (hk : n < T.length) (hlen : T.length ≤ 256) (hu : T[n].used = true) (hc0 : 0 ≤ count) (hc1 : count ≤ 1099511627776) :
    Calls Tryz.prog 99 #[.pointer (some ⟨b.m, 0, none⟩), .int .i64 n] w fun e w' => e = .returned (.tuple #[.agg #[.int .i64 T[n].head.slot, .int .i64 T[n].head.gen], .nilIface]) ∧ MemAt w' b lim (count + 1) S T now k D ∧ Fr b.F w w' := by
  have hlt := hM.m.lt
  have hc := fun i => hM.m.cell i
  have hf := fun i => hM.m.frozen i
  have hw1 : IntKind.i64.wrap (count + 1) = count + 1 := IntWalk.i64_in _ (by omega)
  have hF0 : Fr b.F w (w.setCell ⟨b.m, 0, none⟩ (.int .i64 (count + 1))) := (Fr.refl _ w).setCell (p := ⟨b.m, 0, none⟩) (.inl (by simp [MB.F])) _
  simp only [memCells] at hc
  have HM := Lib.hid hM
  clear hM
  go_enter Tryz.func99, Tryz.ntmps99
  go_wp2_with (first
    | (go_at_call 50
       refine (thead_any b.t b.p T n _ (HM.out.tick.below (by repeat' (first | (with_reducible exact Below.refl _ _) | (with_reducible assumption) | (with_reducible refine Below.alloc ?_ ?_ _) | (with_reducible refine below_drewN ?_ _) | (with_reducible refine Below.drew ?_) | (with_reducible refine Below.setCell ?_ ?_ _) | go_size))).t hk hlen hu).mono ?_
       rintro e w1 ⟨rfl, hb1⟩
       have hM1 := Lib.hid (HM.out.tick.below (below_to (by repeat' (first | (with_reducible exact Below.refl _ _) | (with_reducible assumption) | (with_reducible refine Below.alloc ?_ ?_ _) | (with_reducible refine below_drewN ?_ _) | (with_reducible refine Below.drew ?_) | (with_reducible refine Below.setCell ?_ ?_ _) | go_size)) hb1))
       have hF1 : Fr b.F w w1 := hF0.then_below (below_to (by repeat' (first | (with_reducible exact Below.refl _ _) | (with_reducible assumption) | (with_reducible refine Below.alloc ?_ ?_ _) | (with_reducible refine below_drewN ?_ _) | (with_reducible refine Below.drew ?_) | (with_reducible refine Below.setCell ?_ ?_ _) | go_size)) hb1)
       have hZ1 := Lib.hid (Blk.below (Blk.new_at (b := w.heap.size) (by first | (simp; done) | (simp; omega) | omega)) hb1 (by first | (simp; done) | (simp; omega) | omega))
       have hz0 : w.heap.size < w1.heap.size := by have := hb1.size; simp at this; omega
       clear hb1)
    | go_in)
  refine wp_name ?_
  intro V HV
  have hM2 : Hid (MemAt V b lim (count + 1) S T now k D) := Lib.hid (by rw [← HV.out]; exact hM1.out.below (by repeat' (first | (with_reducible exact Below.refl _ _) | (with_reducible assumption) | (with_reducible refine Below.alloc ?_ ?_ _) | (with_reducible refine below_drewN ?_ _) | (with_reducible refine Below.drew ?_) | (with_reducible refine Below.setCell ?_ ?_ _) | go_size)))
  have hF2 : Fr b.F w V := by rw [← HV.out]; exact hF1.alloc _
  have hZ2 : Hid (Blk V w.heap.size 55 #[.int .i64 0, .int .i64 0]) := Lib.hid (by rw [← HV.out]; exact hZ1.out.alloc _)
  have hY2 : Hid (Blk V w1.heap.size 55 #[.int .i64 T[n].head.slot, .int .i64 T[n].head.gen]) := Lib.hid (by rw [← HV.out]; exact Blk.new_at rfl)
  have hy := hY2.out.lt
  have hz := hZ2.out.lt
  have hcY := fun i => hY2.out.cell i
  have hcZ := fun i => hZ2.out.cell i
  have hfZ := fun i => hZ2.out.frozen i
  clear HV hM1 hF1 hZ1
  refine wp_region_head 4 (fun w' => Below V.heap.size V w') (by kernel_rfl) (by kernel_rfl) ?_
  (refine HW.q (i := 0) rfl (by kernel_rfl) (fun _ _ _ _ h => h) ?_ ?_; (focus ((try dsimp only); exact (by repeat' (first | (with_reducible exact Below.refl _ _) | (with_reducible assumption) | (with_reducible refine Below.alloc ?_ ?_ _) | (with_reducible refine below_drewN ?_ _) | (with_reducible refine Below.drew ?_) | (with_reducible refine Below.setCell ?_ ?_ _) | go_size)))); intro K hK; go_simp; apply Exists.intro; refine ⟨fun w2 hw2 => ?_, hK _ ?_⟩; (focus (obtain ⟨hc2, hf2⟩ := bcell hw2; go_simp; first | done | rfl)); clear hK K)
  (refine HW.q (i := 1) rfl (by kernel_rfl) (fun _ _ _ _ h => h) ?_ ?_; (focus ((try dsimp only); exact (by repeat' (first | (with_reducible exact Below.refl _ _) | (with_reducible assumption) | (with_reducible refine Below.alloc ?_ ?_ _) | (with_reducible refine below_drewN ?_ _) | (with_reducible refine Below.drew ?_) | (with_reducible refine Below.setCell ?_ ?_ _) | go_size)))); intro K hK; go_simp; first | (refine hK _ ?_; clear hK K) | (refine ⟨_, fun _ _ => rfl, hK _ ?_⟩; clear hK K))
  (refine HW.q (i := 2) rfl (by kernel_rfl) (fun _ _ _ _ h => h) ?_ ?_; (focus ((try dsimp only); exact (by repeat' (first | (with_reducible exact Below.refl _ _) | (with_reducible assumption) | (with_reducible refine Below.alloc ?_ ?_ _) | (with_reducible refine below_drewN ?_ _) | (with_reducible refine Below.drew ?_) | (with_reducible refine Below.setCell ?_ ?_ _) | go_size)))); intro K hK; go_simp; first | (refine hK _ ?_; clear hK K) | (refine ⟨_, fun _ _ => rfl, hK _ ?_⟩; clear hK K))
  (refine HW.solo (i := 3) rfl (by kernel_rfl) (by kernel_rfl) ?_; intro K hK; go_simp)
  go_at_call 40
  refine (at_nil _ _ _).mono ?_
  rintro e w2 ⟨rfl, rfl⟩
  refine hK _ _ (by repeat' (first | (with_reducible exact Below.refl _ _) | (with_reducible assumption) | (with_reducible refine Below.alloc ?_ ?_ _) | (with_reducible refine below_drewN ?_ _) | (with_reducible refine Below.drew ?_) | (with_reducible refine Below.setCell ?_ ?_ _) | go_size)) ?_
  clear hK K
  refine HW.done (by kernel_rfl) ?_
  simp only [List.drop_succ_cons, List.drop_zero]
  go_wp2_with fail
  have hX := (((hZ2.out.set_ 0 (.int .i64 T[n].head.slot)).set_ 1 (.int .i64 T[n].head.gen))).drewN 1
  have hcc := fun i => Blk.cell hX i
  have hFX : Fr [w.heap.size] V (((V.setCell ⟨w.heap.size, 0, none⟩ (.int .i64 T[n].head.slot)).setCell ⟨w.heap.size, 1, none⟩ (.int .i64 T[n].head.gen)).drewN 1) :=
    (((Fr.refl _ _).setCell (p := ⟨w.heap.size, 0, none⟩) (.inl (by simp)) _).setCell (p := ⟨w.heap.size, 1, none⟩) (.inl (by simp)) _).drewN 1
  refine bodyPost_ret (v := .tuple #[.agg #[.int .i64 T[n].head.slot, .int .i64 T[n].head.gen], .nilIface]) ?_ rfl ⟨rfl, hM2.out.fr hFX (hM2.out.offRef hZ2.out), hF2.then_ hFX (by simp)⟩
  have hcc : ∀ i, ((V.setCell ⟨w.heap.size, 0, none⟩ (.int .i64 T[n].head.slot)).setCell ⟨w.heap.size, 1, none⟩ (.int .i64 T[n].head.gen)).cell? ⟨w.heap.size, i, none⟩ = _ := hcc
  simp [results, Tryz.results99, go_sem, hcc]
end Go.Proofs.YthidclcliflhkaaGreat
end
section
open Go Go.RowKit
namespace Go.Proofs.YthidclcliflhkaaGreat

theorem lit_reads {X : World} {b : Nat} {e : TypeId} (vs : Array Value) (size n : Nat) (hb : b = X.heap.size) (hl : vs.size = n * size) : Reads (X.alloc (.cells vs e)) (X.heap.size + 1) size (some ⟨b, 0, none⟩) n vs.toList := by
  subst hb
  refine ⟨by simpa using hl, fun _ => ⟨_, rfl, Nat.lt_succ_self _, fun j u hu => ?_⟩⟩
  rw [Addr.add_mid, (Blk.new X e vs).cell]
  simpa using hu
theorem wpList_append_one {P : Program} {ops : Array Oper} {rest : List Oper} {o : Oper} {a : Act} {Q : Exit → Act → World → Prop} (hgd : o.guard = none) (s x : Operand) (t : TypeId)
    (ho : o.op = .call { callee := .builtin .append, args := #[s, x], argTypes := #[t, t] })
    (base : Nat) (e : TypeId) (i : TypeInfo) (z : Value) (size bytes : Nat) (ht : P.underlying t = some (.slice e)) (hi : P.info? e = some i) (hz : i.zero = some z)
    (hsize : i.size = size) (hby : i.bytes = bytes) (hzs : z.cells.size = size) (hsz : 0 < size) (X : World) (b : Nat) (hb : b = X.heap.size)
    (v : Value) (n : Nat) (xs : List Value) (hs : a.eval s = v) (hown : X.ownsRow base e size v n xs) (m : Nat) (news : Array Value) (hx : a.eval x = .slice (some ⟨b, 0, none⟩) m m) (hnl : news.size = m * size) (h1 : ∀ u ∈ news.toList, u.oneCell' = true)
    (h63 : n + m ≤ maxLen) (hbytes : (n + m) * bytes ≤ 140737488355328) (hbase : base ≤ X.heap.size)
    (h : ∀ A1 c1 w1, n + m ≤ c1 → w1.ownsRow base e size (.slice A1 (n + m) c1) (n + m) (xs ++ news.toList) → (X.alloc (.cells news e)).grownBy w1 v.ownBlock → Below base X w1 → X.heap.size < w1.heap.size →
      wpList P ops Q rest (a.put o.dst (.slice A1 (n + m) c1)) w1) :
    wpList P ops Q (o :: rest) a (X.alloc (.cells news e)) := by
  have hown' := ownsRow_keep hown ((Below.refl _ X).alloc (Nat.le_refl _) (.cells news e))
  refine wpList_append_any _ hgd s x t ho base e i z size bytes ht hi hz hsize hby hzs hsz v n xs hs hown' (X.heap.size + 1) (some ⟨b, 0, none⟩) m m news.toList hx (lit_reads news size m hb hnl) h1 h63 hbytes (by simp; omega) ?_
  intro v' w' h2 h3 _
  obtain ⟨A1, c1, rfl, hc⟩ := own_form h2
  have hsz' := h3.size
  have hbb : Below base X w' := Below.grown (((Below.refl base X).alloc hbase (.cells news e))) h3 (by simp; omega) (fun g hg => (hown.lt g hg).1)
  exact h A1 c1 w' hc h2 h3 hbb (by simp at hsz'; omega)
theorem wp_append_one {P : Program} {o : Oper} {a : Act} {K : Act → World → Prop} {Q : Exit → Act → World → Prop} (s x : Operand) (t : TypeId)
    (ho : o.op = .call { callee := .builtin .append, args := #[s, x], argTypes := #[t, t] })
    (base : Nat) (e : TypeId) (i : TypeInfo) (z : Value) (size bytes : Nat) (ht : P.underlying t = some (.slice e)) (hi : P.info? e = some i) (hz : i.zero = some z)
    (hsize : i.size = size) (hby : i.bytes = bytes) (hzs : z.cells.size = size) (hsz : 0 < size) (X : World) (b : Nat) (hb : b = X.heap.size)
    (v : Value) (n : Nat) (xs : List Value) (hs : a.eval s = v) (hown : X.ownsRow base e size v n xs) (m : Nat) (news : Array Value) (hx : a.eval x = .slice (some ⟨b, 0, none⟩) m m) (hnl : news.size = m * size) (h1 : ∀ u ∈ news.toList, u.oneCell' = true)
    (h63 : n + m ≤ maxLen) (hbytes : (n + m) * bytes ≤ 140737488355328) (hbase : base ≤ X.heap.size)
    (h : ∀ A1 c1 w1, n + m ≤ c1 → w1.ownsRow base e size (.slice A1 (n + m) c1) (n + m) (xs ++ news.toList) → (X.alloc (.cells news e)).grownBy w1 v.ownBlock → Below base X w1 → X.heap.size < w1.heap.size →
      K (a.put o.dst (.slice A1 (n + m) c1)) w1) :
    o.wp P a (X.alloc (.cells news e)) K Q := by
  have hown' := ownsRow_keep hown ((Below.refl _ X).alloc (Nat.le_refl _) (.cells news e))
  refine wp_append_any _ s x t ho base e i z size bytes ht hi hz hsize hby hzs hsz v n xs hs hown' (X.heap.size + 1) (some ⟨b, 0, none⟩) m m news.toList hx (lit_reads news size m hb hnl) h1 h63 hbytes (by simp; omega) ?_
  intro v' w' h2 h3 _
  obtain ⟨A1, c1, rfl, hc⟩ := own_form h2
  have hsz' := h3.size
  have hbb : Below base X w' := Below.grown (((Below.refl base X).alloc hbase (.cells news e))) h3 (by simp; omega) (fun g hg => (hown.lt g hg).1)
  exact h A1 c1 w' hc h2 h3 hbb (by simp at hsz'; omega)
theorem two_one (u v : Value) (hu : u.oneCell' = true) (hv : v.oneCell' = true) : (#[u, v] : Array Value).all (·.oneCell') = true := by simp [hu, hv]
end Go.Proofs.YthidclcliflhkaaGreat
end
section
open Go Go.RowKit
namespace Go.Proofs.YthidclcliflhkaaGreat

/-- The places of the used pages, from a place on. -/
def usedFrom : Nat → List Rl.Pg → List Nat
  | _, [] => []
  | i, p :: T => if p.used then i :: usedFrom (i + 1) T else usedFrom (i + 1) T
def usedAt (T : List Rl.Pg) (k : Nat) : List Nat := usedFrom 0 (T.take k)
theorem usedFrom_append : ∀ (A B : List Rl.Pg) (i : Nat), usedFrom i (A ++ B) = usedFrom i A ++ usedFrom (i + A.length) B
  | [], B, i => by simp [usedFrom]
  | p :: A, B, i => by
    rw [List.cons_append, usedFrom, usedFrom_append A B (i + 1)]
    simp only [usedFrom, List.length_cons]
    rw [show i + 1 + A.length = i + (A.length + 1) by omega]
    split <;> simp
theorem usedAt_succ (T : List Rl.Pg) (k : Nat) (h : k < T.length) : usedAt T (k + 1) = usedAt T k ++ (if T[k].used then [k] else []) := by
  rw [usedAt, List.take_succ_eq_append_getElem h, usedFrom_append, usedAt]
  simp [usedFrom, List.length_take, Nat.min_eq_left (Nat.le_of_lt h)]
theorem usedAt_len (T : List Rl.Pg) (k : Nat) (h : k ≤ T.length) : (usedAt T k).length ≤ k := by
  induction k with
  | zero => simp [usedAt, usedFrom]
  | succ k ih =>
    have := ih (by omega)
    rw [usedAt_succ T k (by omega)]
    split <;> simp <;> omega
theorem int_info : (Tryz.prog.info? 3).map (fun i => (i.zero, i.size, i.bytes)) = some (some (.int .i64 0), 1, 8) := by kernel_rfl
def natVals (l : List Nat) : List Value := l.map fun (n : Nat) => .int .i64 (n : Int)
set_option maxRecDepth 100000 in
set_option maxHeartbeats 1000000 in
theorem tpages_any (bt bp : Nat) (T : List Rl.Pg) (w : World) (hT : TableAt w bt bp T) (hlen : T.length ≤ 256) :
    Calls Tryz.prog 49 #[.pointer (some ⟨bt, 0, none⟩)] w fun e w' => ∃ A c, e = .returned (.slice A (usedAt T T.length).length c) ∧ w'.ownsRow w.heap.size 3 1 (.slice A (usedAt T T.length).length c) (usedAt T T.length).length (natVals (usedAt T T.length)) ∧ Below w.heap.size w w' := by
  obtain ⟨i0, hi0, hz0, hz1, hz2⟩ := info_parts int_info
  have hbt := hT.t.lt
  have hbp := hT.p.lt
  have hcT := fun i => hT.t.cell i
  have HT := Lib.hid hT
  clear hT
  go_enter Tryz.func49, Tryz.ntmps49
  go_wp2_with fail
  go_loopw [3, 13] (fun o i wr => ∃ (k : Nat) (A : Option Addr) (cc : Nat), k ≤ T.length ∧ i = .int .i64 k ∧ o = .slice A (usedAt T k).length cc ∧
      wr.ownsRow w.heap.size 3 1 (.slice A (usedAt T k).length cc) (usedAt T k).length (natVals (usedAt T k)) ∧ Below w.heap.size w wr) (fun _ i _ => T.length - (intOf i).toNat)
  case atStart => exact ⟨0, none, 0, Nat.zero_le _, rfl, rfl, World.ownsRow_nil _ _ _ _, Below.refl _ _⟩
  case round =>
    obtain ⟨k, A, cc, hk1, rfl, rfl, hown, hb⟩ := hrel
    have hbs := hb.size
    by_cases h1 : k < T.length
    · have hTr := HT.out.fr (Fr.of_below hb []) (by simp) (by simp)
      have q0 := pg_cell hTr.p k h1 0 (by omega)
      have q1 := pg_cell hTr.p k h1 1 (by omega)
      have q2 := pg_cell hTr.p k h1 2 (by omega)
      simp only [pgCells, List.getElem?_cons_succ, List.getElem?_cons_zero, Nat.add_zero] at q0 q1 q2
      have hs := usedAt_succ T k h1
      have hl := usedAt_len T k hk1
      clear hTr
      cases hu : T[k].used
      · rw [hu] at q0 hs
        simp only [Bool.false_eq_true, if_false, List.append_nil] at hs
        have HO := Lib.hid hown
        clear hown
        go_wp2_with fail
        refine ⟨⟨k + 1, A, cc, by omega, by go_num, by rw [hs], by rw [hs]; exact ownsRow_keep HO.out (by repeat' (first | (with_reducible exact Below.refl _ _) | (with_reducible assumption) | (with_reducible refine Below.alloc ?_ ?_ _) | (with_reducible refine below_drewN ?_ _) | (with_reducible refine Below.drew ?_) | (with_reducible refine Below.setCell ?_ ?_ _) | go_size)), (by repeat' (first | (with_reducible exact Below.refl _ _) | (with_reducible assumption) | (with_reducible refine Below.alloc ?_ ?_ _) | (with_reducible refine below_drewN ?_ _) | (with_reducible refine Below.drew ?_) | (with_reducible refine Below.setCell ?_ ?_ _) | go_size))⟩, by simp [intOf]; omega⟩
      · rw [hu] at q0 hs
        simp only [if_true] at hs
        have HO := Lib.hid hown
        clear hown
        go_wp2_with (at_builtin
                     refine wpList_append_one rfl (.tmp 20) (.tmp 22) _ rfl w.heap.size 3 i0 _ 1 8 Tryz.underlying89 hi0 hz0 hz1 hz2 rfl ?_ _ _ ?_ _ _ _ rfl (ownsRow_keep HO.out (by repeat' (first | (with_reducible exact Below.refl _ _) | (with_reducible assumption) | (with_reducible refine Below.alloc ?_ ?_ _) | (with_reducible refine below_drewN ?_ _) | (with_reducible refine Below.drew ?_) | (with_reducible refine Below.setCell ?_ ?_ _) | go_size))) 1 #[.int .i64 k] rfl rfl ?_ ?_ ?_ ?_ ?_
                     · decide
                     · simp
                     · simp; rfl
                     · simp only [maxLen]; omega
                     · omega
                     · simp; omega
                     intro A1 c1 w1 hle1 hown1 hg1 hb1 hs1)
        have hb2 : Below w.heap.size w w1 := (show Below w.heap.size w (wr.alloc _) from (by repeat' (first | (with_reducible exact Below.refl _ _) | (with_reducible assumption) | (with_reducible refine Below.alloc ?_ ?_ _) | (with_reducible refine below_drewN ?_ _) | (with_reducible refine Below.drew ?_) | (with_reducible refine Below.setCell ?_ ?_ _) | go_size))).trans hb1
        refine ⟨⟨k + 1, A1, c1, by omega, by go_num, ?_, ?_, hb2⟩, by simp [intOf]; omega⟩
        · rw [hs, List.length_append]; rfl
        · rw [hs, List.length_append, natVals, List.map_append]; exact hown1
    · obtain rfl : k = T.length := by omega
      have HO := Lib.hid hown; clear hown
      go_wp2
      go_ret
      exact ⟨A, cc, rfl, HO.out, hb⟩
end Go.Proofs.YthidclcliflhkaaGreat
end
section
open Go Go.RowKit
namespace Go.Proofs.YthidclcliflhkaaGreat

set_option maxRecDepth 100000 in
theorem mpages_any (b : MB) (lim : Rl.Limits) (count : Int) (S : List SlotV) (T : List Rl.Pg) (now : Int) (k : Nat) (D : DataW Unit) (w : World) (hM : MemAt w b lim count S T now k D) (hlen : T.length ≤ 256) :
    Calls Tryz.prog 31 #[.pointer (some ⟨b.m, 0, none⟩)] w fun e w' => ∃ A c, e = .returned (.slice A (usedAt T T.length).length c) ∧ w'.ownsRow w.heap.size 3 1 (.slice A (usedAt T T.length).length c) (usedAt T T.length).length (natVals (usedAt T T.length)) ∧ Below w.heap.size w w' := by
  have hc := fun i => hM.m.cell i
  simp only [memCells] at hc
  have HM := Lib.hid hM
  clear hM
  go_enter Tryz.func31, Tryz.ntmps31
  go_wp2_with (go_at_call 49
               refine (tpages_any b.t b.p T _ HM.out.t hlen).mono ?_
               rintro e w1 ⟨A, c, rfl, ho, hb1⟩)
  go_ret
  exact ⟨A, c, rfl, ho, hb1⟩
theorem OffMem.notF {w : World} {b : MB} {g : Nat} (h : OffMem w b [g]) : g ∉ b.F := by
  have h1 := h.m
  have h2 := h.s
  have h3 := h.p
  have h4 := h.c
  have h5 := h.i
  simp at h1 h2 h3 h4 h5
  simp [MB.F]
  exact ⟨fun e => h1 e.symm, fun e => h2 e.symm, fun e => h3 e.symm, fun e => h4 e.symm, fun e => h5 e.symm⟩
/-- A loader's cells. -/
def loadC (n : Int) (begun over : Bool) (hs hg xs xg : Int) (cv fv ev : Value) : Array Value := #[.int .i64 n, .bool begun, .bool over, .int .i64 hs, .int .i64 hg, .int .i64 xs, .int .i64 xg, cv, fv, ev]
theorem lbegin_any (n : Int) (w : World) : Calls Tryz.prog 79 #[.int .i64 n] w fun e w' => e = .returned (.pointer (some ⟨w.heap.size, 0, none⟩)) ∧ Blk w' w.heap.size 203 (loadC n false false 0 0 0 0 (.slice none 0 0) (.slice none 0 0) .nilIface) ∧ Below w.heap.size w w' := by
  go_enter Tryz.func79, Tryz.ntmps79
  go_wp2
  go_ret
  exact ⟨rfl, Blk.new_at rfl, (by repeat' (first | (with_reducible exact Below.refl _ _) | (with_reducible assumption) | (with_reducible refine Below.alloc ?_ ?_ _) | (with_reducible refine below_drewN ?_ _) | (with_reducible refine Below.drew ?_) | (with_reducible refine Below.setCell ?_ ?_ _) | go_size))⟩
set_option maxRecDepth 100000 in
set_option maxHeartbeats 1000000 in
/-- The loader's first access: the head. -/
theorem lstep_head (bl : Nat) (n : Nat) (b : MB) (lim : Rl.Limits) (count : Int) (S : List SlotV) (T : List Rl.Pg) (now : Int) (k : Nat) (D : DataW Unit) (w : World) (hL : Blk w bl 203 (loadC n false false 0 0 0 0 (.slice none 0 0) (.slice none 0 0) .nilIface)) (hM : MemAt w b lim count S T now k D)
    (hk : n < T.length) (hlen : T.length ≤ 256) (hu : T[n].used = true) (hh : ¬ T[n].head.slot = 0) (hc0 : 0 ≤ count) (hc1 : count ≤ 1099511627776) :
    Calls Tryz.prog 81 #[.pointer (some ⟨bl, 0, none⟩), .pointer (some ⟨b.m, 0, none⟩)] w fun e w' => e = .returned (.bool false) ∧ Blk w' bl 203 (loadC n true false T[n].head.slot T[n].head.gen T[n].head.slot T[n].head.gen (.slice none 0 0) (.slice none 0 0) .nilIface) ∧
      MemAt w' b lim (count + 1) S T now k D ∧ Fr (bl :: b.F) w w' := by
  have hlt := hL.lt
  have hc := fun i => hL.cell i
  simp only [loadC] at hc
  have HL := Lib.hid hL
  have HM := Lib.hid hM
  clear hL hM
  go_enter Tryz.func81, Tryz.ntmps81
  have hO := HM.out.off HL.out (by decide) (by decide) (by decide) (by decide) (by decide) (by decide) (by decide) (by decide)
  have hnF := hO.notF
  go_wp2_with (first
    | (go_at_call 99
       refine (mhead_any b lim count S T now k D n _ HM.out hk hlen hu hc0 hc1).mono ?_
       rintro e w1 ⟨rfl, hM1, hF1⟩
       have HL1 := Lib.hid (hF1.blk HL.out hnF)
       have hl1 := HL1.out.lt
       have hcL1 := fun i => HL1.out.cell i
       simp only [loadC] at hcL1)
    | go_in)
  refine wp_name ?_
  intro V HV
  have HLV := Lib.hid (show Blk V bl 203 (loadC n false false 0 0 0 0 (.slice none 0 0) (.slice none 0 0) .nilIface) by rw [← HV.out]; exact HL1.out.alloc _)
  have HXV := Lib.hid (show Blk V w1.heap.size 55 #[.int .i64 T[n].head.slot, .int .i64 T[n].head.gen] by rw [← HV.out]; exact Blk.new_at rfl)
  have HMV := Lib.hid (show MemAt V b lim (count + 1) S T now k D by rw [← HV.out]; exact hM1.below (by repeat' (first | (with_reducible exact Below.refl _ _) | (with_reducible assumption) | (with_reducible refine Below.alloc ?_ ?_ _) | (with_reducible refine below_drewN ?_ _) | (with_reducible refine Below.drew ?_) | (with_reducible refine Below.setCell ?_ ?_ _) | go_size)))
  have hFV : Fr (bl :: b.F) w V := by rw [← HV.out]; exact (hF1.mono (by intro g hg; simp [hg])).alloc _
  clear HV hcL1 hc HL1 hF1 hM1
  have hcV := fun i => HLV.out.cell i
  have hfV := fun i => HLV.out.frozen i
  have hcX := fun i => HXV.out.cell i
  have hlV := HLV.out.lt
  have hxV := HXV.out.lt
  have hne : bl ≠ w1.heap.size := Blk.ne_ HLV.out HXV.out (by decide)
  simp only [loadC] at hcV
  go_region
  go_wp2_with fail
  have hm : bl ∈ [bl] := by simp
  have hY := ((((HLV.out.set_ 1 (.bool true)).set_ 3 (.int .i64 T[n].head.slot)).set_ 4 (.int .i64 T[n].head.gen)).set_ 5 (.int .i64 T[n].head.slot)).set_ 6 (.int .i64 T[n].head.gen)
  simp only [loadC, List.setIfInBounds_toArray, List.set_cons_succ, List.set_cons_zero] at hY
  have hY := hY.drew
  have hFX : Fr [bl] V (((((V.setCell ⟨bl, 1, none⟩ (.bool true)).setCell ⟨bl, 3, none⟩ (.int .i64 T[n].head.slot)).setCell ⟨bl, 4, none⟩ (.int .i64 T[n].head.gen)).setCell ⟨bl, 5, none⟩ (.int .i64 T[n].head.slot)).setCell ⟨bl, 6, none⟩ (.int .i64 T[n].head.gen)).drew := ((((((Fr.refl [bl] V).setCell (p := ⟨bl, 1, none⟩) (.inl hm) _).setCell (p := ⟨bl, 3, none⟩) (.inl hm) _).setCell (p := ⟨bl, 4, none⟩) (.inl hm) _).setCell (p := ⟨bl, 5, none⟩) (.inl hm) _).setCell (p := ⟨bl, 6, none⟩) (.inl hm) _).drew
  obtain ⟨V2, HV2⟩ : ∃ V2, Hid ((((((V.setCell ⟨bl, 1, none⟩ (.bool true)).setCell ⟨bl, 3, none⟩ (.int .i64 T[n].head.slot)).setCell ⟨bl, 4, none⟩ (.int .i64 T[n].head.gen)).setCell ⟨bl, 5, none⟩ (.int .i64 T[n].head.slot)).setCell ⟨bl, 6, none⟩ (.int .i64 T[n].head.gen)).drew = V2) := ⟨_, Lib.hid rfl⟩
  rw [HV2.out] at hY hFX ⊢
  have hM2 := HMV.out.fr hFX (HMV.out.off HLV.out (by decide) (by decide) (by decide) (by decide) (by decide) (by decide) (by decide) (by decide))
  have hF2 : Fr (bl :: b.F) w V2 := hFV.trans (hFX.mono (by intro g hg; simp at hg; simp [hg]))
  go_ret
  exact ⟨rfl, hY, hM2, hF2⟩
end Go.Proofs.YthidclcliflhkaaGreat
end
