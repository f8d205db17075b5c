/- What plan.Decide tells of a leaf that is to be acted upon: contracts. What is to be done at a page: contracts: Decide. What is to be done at a leaf to act upon: contracts: plan, decide. -/
import Derived.Test.YthidclcliflhkaaGreatZ04
import Derived.Test.YthidclcliflhkaaGreatZ06
import Derived.Test.YthidclcliflhkaaGreatZ08
import Derived.Test.YthidclcliflhkaaGreatZ17
section
open Go Go.RowKit
namespace Go.Proofs.YthidclcliflhkaaGreat
open Rl (inSpan)

set_option maxRecDepth 100000 in
theorem size_any (n hs hg : Int) (cv fv : Value) (leaf : Bool) (v : Rl.LeafView) (A : Option Addr) (k c : Nat) (w : World) (hk : k ≤ 1099511627776) :
    Calls Tryz.prog 161 #[.agg (pageVal n hs hg cv fv leaf v (.slice A k c))] w (RetB (.int .i64 k) w) := by
  have hw1 : IntKind.i64.wrap ((k : Int) + 0) = (k : Int) := by rw [Int.add_zero]; exact IntWalk.i64_in _ (by omega)
  have hw2 : IntKind.i64.wrap (k : Int) = (k : Int) := IntWalk.i64_in _ (by omega)
  unfold pageVal
  go_enter Tryz.func161, Tryz.ntmps161
  go_wp2_with fail
  try go_region
  go_wp2_with fail
  go_ret
  exact ⟨rfl, (by repeat' (first | (with_reducible exact Below.refl _ _) | (with_reducible assumption) | (with_reducible refine Below.alloc ?_ ?_ _) | (with_reducible refine below_drewN ?_ _) | (with_reducible refine Below.drew ?_) | (with_reducible refine Below.setCell ?_ ?_ _) | go_size))⟩
set_option maxRecDepth 100000 in
theorem bounds_leaf (n hs hg : Int) (cv fv : Value) (v : Rl.LeafView) (rv : Value) (w : World) :
    Calls Tryz.prog 143 #[.agg (pageVal n hs hg cv fv true v rv)] w (RetB (.tuple #[.string v.low, .string v.high, .bool v.unb, .int .i64 v.right]) w) := by
  unfold pageVal
  go_enter Tryz.func143, Tryz.ntmps143
  go_wp2_with fail
  try go_region
  go_wp2_with fail
  refine bodyPost_ret (v := .tuple #[.string v.low, .string v.high, .bool v.unb, .int .i64 v.right]) ?_ rfl ⟨rfl, (by repeat' (first | (with_reducible exact Below.refl _ _) | (with_reducible assumption) | (with_reducible refine Below.alloc ?_ ?_ _) | (with_reducible refine below_drewN ?_ _) | (with_reducible refine Below.drew ?_) | (with_reducible refine Below.setCell ?_ ?_ _) | go_size))⟩
  simp [results, Tryz.results143, go_sem]
set_option maxRecDepth 100000 in
theorem phas_leaf (n hs hg : Int) (cv fv : Value) (v : Rl.LeafView) (rv : Value) (key : ByteArray) (w : World) (h1 : v.low.size ≤ maxLen) (h2 : v.high.size ≤ maxLen) (hk : key.size ≤ maxLen) :
    Calls Tryz.prog 139 #[.agg (pageVal n hs hg cv fv true v rv), .string key] w (RetB (.bool (v.has key)) w) := by
  have hB := Lib.hid (Blk.new_at (X := w) (b := w.heap.size) (t := 128) (cs := pageVal n hs hg cv fv true v rv) rfl).rangeArr
  go_enter Tryz.func139, Tryz.ntmps139
  go_wp2_with (first
    | (go_at_call 143
       refine (bounds_leaf n hs hg cv fv v rv _).mono ?_
       rintro e w1 ⟨rfl, hb1⟩
       have hb1 : Below w.heap.size w w1 := below_to (by repeat' (first | (with_reducible exact Below.refl _ _) | (with_reducible assumption) | (with_reducible refine Below.alloc ?_ ?_ _) | (with_reducible refine below_drewN ?_ _) | (with_reducible refine Below.drew ?_) | (with_reducible refine Below.setCell ?_ ?_ _) | go_size)) hb1)
    | (go_at_call 90
       refine (in_any _ _ _ _ _ h1 h2 hk).mono ?_
       rintro e w2 ⟨rfl, n2, rfl⟩)
    | (refine wpList_load_arr rfl 128 _ rfl w.heap.size 0 rfl (pageVal n hs hg cv fv true v rv) _ hB.out Tryz.underlying128 rfl (by kernel_rfl) ?_))
  go_ret
  exact ⟨rfl, (by repeat' (first | (with_reducible exact Below.refl _ _) | (with_reducible assumption) | (with_reducible refine Below.alloc ?_ ?_ _) | (with_reducible refine below_drewN ?_ _) | (with_reducible refine Below.drew ?_) | (with_reducible refine Below.setCell ?_ ?_ _) | go_size))⟩
theorem size_zero (n hs hg : Int) (cv fv : Value) (leaf : Bool) (v : Rl.LeafView) (A : Option Addr) (c : Nat) (w : World) :
    Calls Tryz.prog 161 #[.agg (pageVal n hs hg cv fv leaf v (.slice A 0 c))] w (RetB (.int .i64 0) w) := size_any n hs hg cv fv leaf v A 0 c w (by omega)
def aboveZ : Array Value := #[.bool false, .int .i64 0, .int .i64 0, .int .i64 0, .string ⟨#[]⟩, .string ⟨#[]⟩, .bool false, .int .i64 0, .slice none 0 0, .bool false, .int .i64 0, .int .i64 0, .string ⟨#[]⟩]
def planVal (kind to : Int) : Array Value := #[.int .i64 kind, .int .i64 to, .string ⟨#[]⟩, .int .i64 0, .int .i64 0, .int .i64 0, .string ⟨#[]⟩]
set_option maxRecDepth 100000 in
set_option maxHeartbeats 1000000 in
theorem upkeep_none (n hs hg : Int) (A : Option Addr) (cl cc : Nat) (fv : Value) (v : Rl.LeafView) (B : Option Addr) (c : Nat) (lim : Rl.Limits) (w : World) (h1 : (cl : Int) ≤ lim.chain) (h2 : 0 ≤ lim.rows) :
    Calls Tryz.prog 141 #[.agg (pageVal n hs hg (.slice A cl cc) fv true v (.slice B 0 c)), .agg aboveZ, .agg (limVal lim)] w (RetB (.tuple #[.agg (planVal 0 0), .bool false]) w) := by
  have d1 : ¬ (lim.chain < (cl : Int)) := by omega
  have d3 : decide (lim.rows < 0) = false := by simp; omega
  have e0 : (pageVal n hs hg (.slice A cl cc) fv true v (.slice B 0 c))[0]? = some (.int .i64 n) := rfl
  have e3 : (pageVal n hs hg (.slice A cl cc) fv true v (.slice B 0 c))[3]? = some (.slice A cl cc) := rfl
  have e5 : (pageVal n hs hg (.slice A cl cc) fv true v (.slice B 0 c))[5]? = some (.bool true) := rfl
  unfold aboveZ limVal
  go_enter Tryz.func141, Tryz.ntmps141
  go_wp2_with fail
  refine wp_name ?_
  intro V HV
  have HX := Lib.hid (show Blk V w.heap.size 128 (pageVal n hs hg (.slice A cl cc) fv true v (.slice B 0 c)) by rw [← HV.out]; exact Blk.alloc (Blk.alloc (Blk.alloc (Blk.new_at rfl) _) _) _)
  have HY := Lib.hid (show Blk V (w.heap.size + 1) 62 aboveZ by rw [← HV.out]; exact Blk.alloc (Blk.alloc (Blk.new_at (by simp)) _) _)
  have HL := Lib.hid (show Blk V (w.heap.size + 1 + 1) 45 (limVal lim) by rw [← HV.out]; exact Blk.alloc (Blk.new_at (by simp)) _)
  have HR := Lib.hid (show Blk V (w.heap.size + 1 + 1 + 1) 206 (planVal 0 0) by rw [← HV.out]; exact Blk.new_at (by simp))
  have hbV : Below w.heap.size w V := by rw [← HV.out]; exact (by repeat' (first | (with_reducible exact Below.refl _ _) | (with_reducible assumption) | (with_reducible refine Below.alloc ?_ ?_ _) | (with_reducible refine below_drewN ?_ _) | (with_reducible refine Below.drew ?_) | (with_reducible refine Below.setCell ?_ ?_ _) | go_size))
  have hsV : w.heap.size + 1 + 1 + 1 + 1 = V.heap.size := by rw [← HV.out]; simp
  clear HV
  have hxV : w.heap.size < V.heap.size := by omega
  have hlV : w.heap.size + 1 + 1 < V.heap.size := by omega
  have hcX := fun i => HX.out.cell i
  have hcL := fun i => HL.out.cell i
  simp only [limVal] at hcL
  refine wp_region_new (by kernel_rfl) (by kernel_rfl) ?_
  refine wpQuiet_step (fun K hK => ?_)
  refine quiet_load_arr (by kernel_rfl) 128 _ rfl w.heap.size 0 rfl (pageVal n hs hg (.slice A cl cc) fv true v (.slice B 0 c)) _ (fun w2 hw2 => (HX.out.below hw2 hxV).rangeArr) Tryz.underlying128 rfl (by kernel_rfl) ?_
  refine hK _ ?_
  clear hK K
  (refine wpQuiet_step (fun K hK => ?_); go_simp; apply Exists.intro; refine ⟨fun w2 hw2 => ?_, hK _ ?_⟩; (focus (refine (size_zero n hs hg (.slice A cl cc) fv true v B c _).mono ?_; rintro e w3 ⟨rfl, hb3⟩; exact ⟨rfl, below_to hw2 hb3⟩)); clear hK K)
  (refine wpQuiet_step (fun K hK => ?_); go_simp; first | (refine hK _ ?_; clear hK K) | (refine ⟨_, fun _ _ => rfl, hK _ ?_⟩; clear hK K))
  (refine wpQuiet_step (fun K hK => ?_); go_simp; apply Exists.intro; refine ⟨fun w2 hw2 => ?_, hK _ ?_⟩; (focus (obtain ⟨hc2, hf2⟩ := bcell hw2; go_simp; first | done | rfl)); clear hK K)
  (refine wpQuiet_step (fun K hK => ?_); go_simp; first | (refine hK _ ?_; clear hK K) | (refine ⟨_, fun _ _ => rfl, hK _ ?_⟩; clear hK K))
  repeat (first | go_big_quiet_skip | (go_big_quiet_want; go_big_quiet_op; go_big_quiet_on) | (refine wpQuiet_step (fun K hK => ?_); go_simp; first | (refine hK _ ?_; clear hK K) | (refine ⟨_, fun _ _ => rfl, hK _ ?_⟩; clear hK K)))
  refine wpQuiet_nil ?_
  intro w7 hw7
  have HX7 := Lib.hid (HX.out.below hw7 hxV)
  have HY7 := Lib.hid (HY.out.below hw7 (by omega))
  have HL7 := Lib.hid (HL.out.below hw7 hlV)
  have HR7 := Lib.hid (HR.out.below hw7 (by omega))
  have hb7 : Below w.heap.size w w7 := below_to hbV hw7
  have hx7 := HX7.out.lt
  have hl7 := HL7.out.lt
  have hcL7 := fun i => HL7.out.cell i
  simp only [limVal] at hcL7
  clear hcL hcX HX HY HL HR hw7
  go_wp2_with fail
  refine wp_region_new (by kernel_rfl) (by kernel_rfl) ?_
  refine wpQuiet_step (fun K hK => ?_)
  refine quiet_load_arr (by kernel_rfl) 128 _ rfl w.heap.size 0 rfl (pageVal n hs hg (.slice A cl cc) fv true v (.slice B 0 c)) _ (fun w2 hw2 => (HX7.out.below hw2 hx7).rangeArr) Tryz.underlying128 rfl (by kernel_rfl) ?_
  refine hK _ ?_
  clear hK K
  (refine wpQuiet_step (fun K hK => ?_); go_simp; apply Exists.intro; refine ⟨fun w2 hw2 => ?_, hK _ ?_⟩; (focus (refine (size_zero n hs hg (.slice A cl cc) fv true v B c _).mono ?_; rintro e w3 ⟨rfl, hb3⟩; exact ⟨rfl, below_to hw2 hb3⟩)); clear hK K)
  (refine wpQuiet_step (fun K hK => ?_); go_simp; first | (refine hK _ ?_; clear hK K) | (refine ⟨_, fun _ _ => rfl, hK _ ?_⟩; clear hK K))
  (refine wpQuiet_step (fun K hK => ?_); go_simp; apply Exists.intro; refine ⟨fun w2 hw2 => ?_, hK _ ?_⟩; (focus (obtain ⟨hc2, hf2⟩ := bcell hw2; go_simp; first | done | rfl)); clear hK K)
  (refine wpQuiet_step (fun K hK => ?_); go_simp; first | (refine hK _ ?_; clear hK K) | (refine ⟨_, fun _ _ => rfl, hK _ ?_⟩; clear hK K))
  repeat (first | go_big_quiet_skip | (go_big_quiet_want; go_big_quiet_op; go_big_quiet_on) | (refine wpQuiet_step (fun K hK => ?_); go_simp; first | (refine hK _ ?_; clear hK K) | (refine ⟨_, fun _ _ => rfl, hK _ ?_⟩; clear hK K)))
  refine wpQuiet_nil ?_
  intro w8 hw8
  have HX8 := Lib.hid (HX7.out.below hw8 hx7)
  have HY8 := Lib.hid (HY7.out.below hw8 HY7.out.lt)
  have HR8 := Lib.hid (HR7.out.below hw8 HR7.out.lt)
  have hb8 : Below w.heap.size w w8 := below_to hb7 hw8
  have hx8 := HX8.out.lt
  have hrg := Lib.hid HX8.out.rangeArr
  have hcX8 := fun i => HX8.out.cell i
  simp only [pageVal] at hcX8
  clear hcL7 hw8
  go_wp2_with (first
    | (go_at_call 161
       refine (size_zero n hs hg (.slice A cl cc) fv true v B c _).mono ?_
       rintro e w9 ⟨rfl, hb9⟩
       have HY9 := Lib.hid (HY8.out.below hb9 HY8.out.lt)
       have HR9 := Lib.hid (HR8.out.below hb9 HR8.out.lt)
       have hb9 : Below w.heap.size w w9 := below_to hb8 hb9
       have hcY := fun i => HY9.out.cell i
       simp only [aboveZ] at hcY
       have hcR := fun i => HR9.out.cell i
       have hfR := fun i => HR9.out.frozen i
       simp only [planVal] at hcR)
    | (refine wpList_load_arr_g (by kernel_rfl) 128 _ rfl w.heap.size 0 rfl (pageVal n hs hg (.slice A cl cc) fv true v (.slice B 0 c)) _ hrg.out Tryz.underlying128 rfl (by kernel_rfl) ?_))
  have hR := HR9.out.setCs (planVal 0 0).toList w9 0
  have hbR : Below w.heap.size w (w9.setCells (w.heap.size + 1 + 1 + 1) 0 (planVal 0 0).toList) := below_setCs (g := w.heap.size + 1 + 1 + 1) (B := w.heap.size) _ _ _ hb9 (by omega)
  obtain ⟨V9, HV9⟩ : ∃ V9, Hid (w9.setCells (w.heap.size + 1 + 1 + 1) 0 (planVal 0 0).toList = V9) := ⟨_, Lib.hid rfl⟩
  rw [HV9.out] at hR hbR
  simp only [planVal, World.setCells, Nat.zero_add, Nat.reduceAdd] at HV9
  rw [HV9.out]
  simp only [planVal, setN, List.set_cons_zero, List.set_cons_succ] at hR
  have hR : Blk V9 (w.heap.size + 1 + 1 + 1) 206 (planVal 0 0) := hR
  exact bodyPost_ret (v := .tuple #[.agg (planVal 0 0), .bool false]) (results_cell_tmp rfl rfl hR Tryz.underlying206 rfl (by kernel_rfl) rfl) rfl ⟨rfl, hbR⟩
end Go.Proofs.YthidclcliflhkaaGreat
end
section
open Go Go.RowKit
namespace Go.Proofs.YthidclcliflhkaaGreat

theorem wpList_nameld {P : Program} {ops : Array Oper} {rest : List Oper} {op : Oper} {a : Act} {X : World} {Q : Exit → Act → World → Prop} (ty : TypeId) (x : Operand) (_ho : op.op = .load ty x) (h : ∀ V, Hid (X = V) → wpList P ops Q (op :: rest) a V) : wpList P ops Q (op :: rest) a X := h X (Lib.hid rfl)
set_option maxRecDepth 100000 in
set_option maxHeartbeats 1000000 in
theorem decide_act (n hs hg : Int) (A : Option Addr) (cl cc : Nat) (fv : Value) (v : Rl.LeafView) (B : Option Addr) (c : Nat) (lim : Rl.Limits) (key : ByteArray) (w : World) (h1 : (cl : Int) ≤ lim.chain) (h2 : 0 ≤ lim.rows)
    (h3 : v.low.size ≤ maxLen) (h4 : v.high.size ≤ maxLen) (hk : key.size ≤ maxLen) (hh : v.has key = true) (hg2 : v.gone = false) :
    Calls Tryz.prog 116 #[.agg (pageVal n hs hg (.slice A cl cc) fv true v (.slice B 0 c)), .agg aboveZ, .string key, .agg (limVal lim), .bool true] w (RetB (.agg (planVal 10 0)) w) := by
  have e5 : (pageVal n hs hg (.slice A cl cc) fv true v (.slice B 0 c))[5]? = some (.bool true) := rfl
  have e11 : (pageVal n hs hg (.slice A cl cc) fv true v (.slice B 0 c))[11]? = some (.bool false) := by rw [← hg2]; rfl
  go_enter Tryz.func116, Tryz.ntmps116
  go_wp2_with (first
    | (refine wpList_load_arr rfl 128 _ rfl w.heap.size 0 rfl (pageVal n hs hg (.slice A cl cc) fv true v (.slice B 0 c)) _ ?_ Tryz.underlying128 rfl ?_ ?_
       · exact (Blk.alloc (Blk.alloc (Blk.alloc (Blk.new_at rfl) _) _) _).rangeArr
       · kernel_rfl))
  refine (phas_leaf n hs hg (.slice A cl cc) fv v (.slice B 0 c) key _ h3 h4 hk).mono ?_
  rintro e w1 ⟨rfl, hb1⟩
  rw [hh]
  have hZ0 : w.heap.size + 1 + 1 + 1 < w1.heap.size := by have := hb1.size; simp at this; omega
  have HX1 := Lib.hid (Blk.below (Blk.alloc (Blk.alloc (Blk.alloc (Blk.new_at (b := w.heap.size) rfl) _) _) _) hb1 (by first | (simp; done) | (simp; omega) | omega))
  have HY1 := Lib.hid (Blk.below (Blk.alloc (Blk.alloc (Blk.new_at (b := w.heap.size + 1) (by first | (simp; done) | (simp; omega) | omega)) _) _) hb1 (by first | (simp; done) | (simp; omega) | omega))
  have HL1 := Lib.hid (Blk.below (Blk.alloc (Blk.new_at (b := w.heap.size + 1 + 1) (by first | (simp; done) | (simp; omega) | omega)) _) hb1 (by first | (simp; done) | (simp; omega) | omega))
  have HR1 := Lib.hid (Blk.below (Blk.new_at (b := w.heap.size + 1 + 1 + 1) (by first | (simp; done) | (simp; omega) | omega)) hb1 (by first | (simp; done) | (simp; omega) | omega))
  have hb1 : Below w.heap.size w w1 := below_to (by repeat' (first | (with_reducible exact Below.refl _ _) | (with_reducible assumption) | (with_reducible refine Below.alloc ?_ ?_ _) | (with_reducible refine below_drewN ?_ _) | (with_reducible refine Below.drew ?_) | (with_reducible refine Below.setCell ?_ ?_ _) | go_size)) hb1
  have hcY1 := fun i => HY1.out.cell i
  have hcL1 := fun i => HL1.out.cell i
  have hcX1 := fun i => HX1.out.cell i
  simp only [aboveZ] at hcY1
  simp only [limVal] at hcL1
  simp only [pageVal] at hcX1
  have hrg := Lib.hid HX1.out.rangeArr
  go_wp2_with (first
    | (refine wpList_load_arr rfl 128 _ rfl w.heap.size 0 rfl (pageVal n hs hg (.slice A cl cc) fv true v (.slice B 0 c)) _ hrg.out Tryz.underlying128 rfl (by kernel_rfl) ?_))
  refine (upkeep_none n hs hg A cl cc fv v B c lim _ h1 h2).mono ?_
  rintro e w2 ⟨rfl, hb2⟩
  have HX2 := Lib.hid (HX1.out.below hb2 HX1.out.lt)
  have HR2 := Lib.hid (HR1.out.below hb2 HR1.out.lt)
  have hx2 : w.heap.size < w2.heap.size := by have := hb2.size; omega
  have hb2 : Below w.heap.size w w2 := below_to hb1 hb2
  have hr2 := HR2.out.lt
  clear hcY1 hcL1 hcX1 hrg e5 e11 HX1 HY1 HL1 HR1
  simp only [planVal]
  have tok : Hid True := Lib.hid trivial
  go_wp2_with (first
    | (refine wpList_nameld 4 (.tmp 61) rfl ?_
       clear tok
       intro V HV
       have HXV := Lib.hid (show Blk V w.heap.size 128 (pageVal n hs hg (.slice A cl cc) fv true v (.slice B 0 c)) by rw [← HV.out]; exact HX2.out.alloc _)
       have HRV := Lib.hid (show Blk V (w.heap.size + 1 + 1 + 1) 206 (planVal 0 0) by rw [← HV.out]; exact HR2.out.alloc _)
       have hbV : Below w.heap.size w V := by rw [← HV.out]; exact (by repeat' (first | (with_reducible exact Below.refl _ _) | (with_reducible assumption) | (with_reducible refine Below.alloc ?_ ?_ _) | (with_reducible refine below_drewN ?_ _) | (with_reducible refine Below.drew ?_) | (with_reducible refine Below.setCell ?_ ?_ _) | go_size))
       clear HV
       have q5 : V.cell? ⟨w.heap.size, 5, none⟩ = some (.bool true) := HXV.out.cell 5
       have hcR := fun i => HRV.out.cell i
       have hfR := fun i => HRV.out.frozen i
       simp only [planVal] at hcR))
  have hR := HRV.out.setCs (planVal 10 0).toList V 0
  have hbR : Below w.heap.size w (V.setCells (w.heap.size + 1 + 1 + 1) 0 (planVal 10 0).toList) := below_setCs (g := w.heap.size + 1 + 1 + 1) (B := w.heap.size) _ _ _ hbV (by omega)
  obtain ⟨V9, HV9⟩ : ∃ V9, Hid (V.setCells (w.heap.size + 1 + 1 + 1) 0 (planVal 10 0).toList = V9) := ⟨_, Lib.hid rfl⟩
  rw [HV9.out] at hR hbR
  simp only [planVal, World.setCells, Nat.zero_add, Nat.reduceAdd] at HV9
  rw [HV9.out]
  simp only [planVal, setN, List.set_cons_zero, List.set_cons_succ] at hR
  have hR : Blk V9 (w.heap.size + 1 + 1 + 1) 206 (planVal 10 0) := hR
  exact bodyPost_ret (v := .agg (planVal 10 0)) (results_cell rfl rfl hR Tryz.underlying206 rfl (by kernel_rfl)) rfl ⟨rfl, hbR⟩
end Go.Proofs.YthidclcliflhkaaGreat
end
section
open Go Go.RowKit
namespace Go.Proofs.YthidclcliflhkaaGreat

theorem ownV_keep {w w' : World} {base : Nat} {rv : Value} {l : List Rl.Row} (h : OwnV w base rv l) (hb : Below w.heap.size w w') : OwnV w' base rv l := by
  obtain ⟨A, c, rfl, hc, ho⟩ := h
  exact ⟨A, c, rfl, hc, ownsRow_keep ho hb⟩
theorem thr_above (n : Int) (bg : Bool) (kind : Int) (key val : ByteArray) (wr : Bool) (rs : ByteArray) (re nx : Value) : ∀ j v, aboveZ.toList[j]? = some v → (thrC n bg kind key val wr rs re nx)[12 + j]? = some v := by
  intro j v h
  have e : (thrC n bg kind key val wr rs re nx).toList = [.int .i64 n, .slice none 0 0, .bool bg, .int .i64 kind, .string key, .string val, .bool wr, .string rs, re, .pointer none, .pointer none, nx] ++ (aboveZ.toList ++ [.int .i64 0, .int .i64 0, .slice none 0 0, .int .i64 0, .int .i64 0]) := rfl
  rw [← Array.getElem?_toList, e, List.getElem?_append_right (by simp), List.getElem?_append_left (by have := (List.getElem?_eq_some_iff.1 h).1; simp at this ⊢; omega)]
  simpa using h
set_option maxRecDepth 100000 in
set_option maxHeartbeats 2000000 in
theorem tplan_act (bt : Nat) (n : Int) (bg : Bool) (kind : Int) (key val : ByteArray) (rs : ByteArray) (re nx : Value) (pn hs hg : Int) (A : Option Addr) (cl cc : Nat) (fv : Value) (v : Rl.LeafView) (B : Option Addr) (c : Nat) (lim : Rl.Limits) (w : World)
    (hT : Blk w bt 66 (thrC n bg kind key val true rs re nx)) (h1 : (cl : Int) ≤ lim.chain) (h2 : 0 ≤ lim.rows)
    (h3 : v.low.size ≤ maxLen) (h4 : v.high.size ≤ maxLen) (hk : key.size ≤ maxLen) (hh : v.has key = true) (hg2 : v.gone = false) :
    Calls Tryz.prog 103 #[.pointer (some ⟨bt, 0, none⟩), .agg (pageVal pn hs hg (.slice A cl cc) fv true v (.slice B 0 c)), .agg (limVal lim)] w (RetB (.agg (planVal 10 0)) w) := by
  have hlt := hT.lt
  have HT := Lib.hid hT
  have hcT := fun i => hT.cell i
  simp only [thrC] at hcT
  clear hT
  have hlt1 : bt < w.heap.size + 1 := by omega
  have hlt2 : bt < w.heap.size + 1 + 1 := by omega
  go_enter Tryz.func103, Tryz.ntmps103
  go_wp2_with fail
  refine wp_name ?_
  intro V HV
  have hPV := Lib.hid (show Blk V w.heap.size 128 (pageVal pn hs hg (.slice A cl cc) fv true v (.slice B 0 c)) by rw [← HV.out]; exact Blk.alloc (Blk.alloc (Blk.new_at rfl) _) _)
  have hLV := Lib.hid (show Blk V (w.heap.size + 1) 45 (limVal lim) by rw [← HV.out]; exact Blk.alloc (Blk.new_at (by simp)) _)
  have hRV := Lib.hid (show Blk V (w.heap.size + 1 + 1) 206 (planVal 0 0) by rw [← HV.out]; exact Blk.new_at (by simp))
  have hbV : Below w.heap.size w V := by rw [← HV.out]; exact (by repeat' (first | (with_reducible exact Below.refl _ _) | (with_reducible assumption) | (with_reducible refine Below.alloc ?_ ?_ _) | (with_reducible refine below_drewN ?_ _) | (with_reducible refine Below.drew ?_) | (with_reducible refine Below.setCell ?_ ?_ _) | go_size))
  clear HV hcT hlt1 hlt2
  have hTV := Lib.hid (HT.out.below hbV hlt)
  have htl := hTV.out.lt
  have hpl := hPV.out.lt
  have hll := hLV.out.lt
  have hrl := hRV.out.lt
  have hcT := fun i => hTV.out.cell i
  have hcL := fun i => hLV.out.cell i
  simp only [thrC] at hcT
  simp only [limVal] at hcL
  have hws := hbV.size
  refine wp_region_head 15 (SB V) (by kernel_rfl) (by kernel_rfl) ?_
  (refine HW.q (i := 1) rfl (by kernel_rfl) (fun _ _ _ _ h => h) ?_ ?_; (focus ((try dsimp only); exact (by repeat' (first | (with_reducible exact Below.refl _ _) | (with_reducible assumption) | (with_reducible refine Below.alloc ?_ ?_ _) | (with_reducible refine below_drewN ?_ _) | (with_reducible refine Below.drew ?_) | (with_reducible refine Below.setCell ?_ ?_ _) | go_size)))); intro K hK; go_simp; first | (refine hK _ ?_; clear hK K) | (refine ⟨_, fun _ _ => rfl, hK _ ?_⟩; clear hK K))
  (refine HW.q (i := 2) rfl (by kernel_rfl) (fun _ _ _ _ h => h) ?_ ?_; (focus ((try dsimp only); exact (by repeat' (first | (with_reducible exact Below.refl _ _) | (with_reducible assumption) | (with_reducible refine Below.alloc ?_ ?_ _) | (with_reducible refine below_drewN ?_ _) | (with_reducible refine Below.drew ?_) | (with_reducible refine Below.setCell ?_ ?_ _) | go_size)))); intro K hK; go_simp; first | (refine hK _ ?_; clear hK K) | (refine ⟨_, fun _ _ => rfl, hK _ ?_⟩; clear hK K))
  (refine HW.q (i := 3) rfl (by kernel_rfl) (fun _ _ _ _ h => h) ?_ ?_; (focus ((try dsimp only); exact (by repeat' (first | (with_reducible exact Below.refl _ _) | (with_reducible assumption) | (with_reducible refine Below.alloc ?_ ?_ _) | (with_reducible refine below_drewN ?_ _) | (with_reducible refine Below.drew ?_) | (with_reducible refine Below.setCell ?_ ?_ _) | go_size)))); intro K hK; go_simp; first | (refine hK _ ?_; clear hK K) | (refine ⟨_, fun _ _ => rfl, hK _ ?_⟩; clear hK K))
  (refine HW.q (i := 5) rfl (by kernel_rfl) (fun _ _ _ _ h => h) ?_ ?_; (focus ((try dsimp only); exact (by repeat' (first | (with_reducible exact Below.refl _ _) | (with_reducible assumption) | (with_reducible refine Below.alloc ?_ ?_ _) | (with_reducible refine below_drewN ?_ _) | (with_reducible refine Below.drew ?_) | (with_reducible refine Below.setCell ?_ ?_ _) | go_size)))); intro K hK; go_simp; first | (refine hK _ ?_; clear hK K) | (refine ⟨_, fun _ _ => rfl, hK _ ?_⟩; clear hK K))
  (refine HW.q (i := 6) rfl (by kernel_rfl) (fun _ _ _ _ h => h) ?_ ?_; (focus ((try dsimp only); exact (by repeat' (first | (with_reducible exact Below.refl _ _) | (with_reducible assumption) | (with_reducible refine Below.alloc ?_ ?_ _) | (with_reducible refine below_drewN ?_ _) | (with_reducible refine Below.drew ?_) | (with_reducible refine Below.setCell ?_ ?_ _) | go_size)))); intro K hK; go_simp; first | (refine hK _ ?_; clear hK K) | (refine ⟨_, fun _ _ => rfl, hK _ ?_⟩; clear hK K))
  (refine HW.q (i := 7) rfl (by kernel_rfl) (fun _ _ _ _ h => h) ?_ ?_; (focus ((try dsimp only); exact (by repeat' (first | (with_reducible exact Below.refl _ _) | (with_reducible assumption) | (with_reducible refine Below.alloc ?_ ?_ _) | (with_reducible refine below_drewN ?_ _) | (with_reducible refine Below.drew ?_) | (with_reducible refine Below.setCell ?_ ?_ _) | go_size)))); intro K hK; go_simp; first | (refine hK _ ?_; clear hK K) | (refine ⟨_, fun _ _ => rfl, hK _ ?_⟩; clear hK K))
  (refine HW.q (i := 8) rfl (by kernel_rfl) (fun _ _ _ _ h => h) ?_ ?_; (focus ((try dsimp only); exact (by repeat' (first | (with_reducible exact Below.refl _ _) | (with_reducible assumption) | (with_reducible refine Below.alloc ?_ ?_ _) | (with_reducible refine below_drewN ?_ _) | (with_reducible refine Below.drew ?_) | (with_reducible refine Below.setCell ?_ ?_ _) | go_size)))); intro K hK; go_simp; first | (refine hK _ ?_; clear hK K) | (refine ⟨_, fun _ _ => rfl, hK _ ?_⟩; clear hK K))
  (refine HW.q (i := 11) rfl (by kernel_rfl) (fun _ _ _ _ h => h) ?_ ?_; (focus ((try dsimp only); exact (by repeat' (first | (with_reducible exact Below.refl _ _) | (with_reducible assumption) | (with_reducible refine Below.alloc ?_ ?_ _) | (with_reducible refine below_drewN ?_ _) | (with_reducible refine Below.drew ?_) | (with_reducible refine Below.setCell ?_ ?_ _) | go_size)))); intro K hK; go_simp; first | (refine hK _ ?_; clear hK K) | (refine ⟨_, fun _ _ => rfl, hK _ ?_⟩; clear hK K))
  (refine HW.q (i := 12) rfl (by kernel_rfl) (fun _ _ _ _ h => h) ?_ ?_; (focus ((try dsimp only); exact (by repeat' (first | (with_reducible exact Below.refl _ _) | (with_reducible assumption) | (with_reducible refine Below.alloc ?_ ?_ _) | (with_reducible refine below_drewN ?_ _) | (with_reducible refine Below.drew ?_) | (with_reducible refine Below.setCell ?_ ?_ _) | go_size)))); intro K hK; go_simp; first | (refine hK _ ?_; clear hK K) | (refine ⟨_, fun _ _ => rfl, hK _ ?_⟩; clear hK K))
  (refine HW.q (i := 13) rfl (by kernel_rfl) (fun _ _ _ _ h => h) ?_ ?_; (focus ((try dsimp only); exact (by repeat' (first | (with_reducible exact Below.refl _ _) | (with_reducible assumption) | (with_reducible refine Below.alloc ?_ ?_ _) | (with_reducible refine below_drewN ?_ _) | (with_reducible refine Below.drew ?_) | (with_reducible refine Below.setCell ?_ ?_ _) | go_size)))); intro K hK; go_simp; first | (refine hK _ ?_; clear hK K) | (refine ⟨_, fun _ _ => rfl, hK _ ?_⟩; clear hK K))
  refine HW.q (i := 0) rfl (by kernel_rfl) (fun _ _ _ _ h => h) ?_ ?_
  · exact (by repeat' (first | (with_reducible exact Below.refl _ _) | (with_reducible assumption) | (with_reducible refine Below.alloc ?_ ?_ _) | (with_reducible refine below_drewN ?_ _) | (with_reducible refine Below.drew ?_) | (with_reducible refine Below.setCell ?_ ?_ _) | go_size))
  intro K hK
  refine held_load_arr (by kernel_rfl) 128 _ rfl w.heap.size 0 rfl (pageVal pn hs hg (.slice A cl cc) fv true v (.slice B 0 c)) _ (fun w2 hw2 => (hPV.out.below (show Below V.heap.size V w2 from hw2) hpl).rangeArr) Tryz.underlying128 rfl (by kernel_rfl) ?_
  refine hK _ ?_
  clear hK K
  refine HW.q (i := 4) rfl (by kernel_rfl) (fun _ _ _ _ h => h) ?_ ?_
  · exact (by repeat' (first | (with_reducible exact Below.refl _ _) | (with_reducible assumption) | (with_reducible refine Below.alloc ?_ ?_ _) | (with_reducible refine below_drewN ?_ _) | (with_reducible refine Below.drew ?_) | (with_reducible refine Below.setCell ?_ ?_ _) | go_size))
  intro K hK
  refine held_load_arr (by kernel_rfl) 62 _ rfl bt 12 rfl aboveZ _ (fun w2 hw2 => (hTV.out.below (show Below V.heap.size V w2 from hw2) htl).range 12 _ (thr_above _ _ _ _ _ _ _ _ _)) Tryz.underlying62 rfl (by kernel_rfl) ?_
  refine hK _ ?_
  clear hK K
  (refine HW.q (i := 9) rfl (by kernel_rfl) (fun _ _ _ _ h => h) ?_ ?_; (focus ((try dsimp only); exact (by repeat' (first | (with_reducible exact Below.refl _ _) | (with_reducible assumption) | (with_reducible refine Below.alloc ?_ ?_ _) | (with_reducible refine below_drewN ?_ _) | (with_reducible refine Below.drew ?_) | (with_reducible refine Below.setCell ?_ ?_ _) | go_size)))); intro K hK; go_simp; apply Exists.intro; refine ⟨fun w2 hw2 => ?_, hK _ ?_⟩; (focus (obtain ⟨hc2, hf2⟩ := bcell hw2; go_simp; first | done | rfl)); clear hK K)
  (refine HW.q (i := 10) rfl (by kernel_rfl) (fun _ _ _ _ h => h) ?_ ?_; (focus ((try dsimp only); exact (by repeat' (first | (with_reducible exact Below.refl _ _) | (with_reducible assumption) | (with_reducible refine Below.alloc ?_ ?_ _) | (with_reducible refine below_drewN ?_ _) | (with_reducible refine Below.drew ?_) | (with_reducible refine Below.setCell ?_ ?_ _) | go_size)))); intro K hK; go_simp; apply Exists.intro; refine ⟨fun w2 hw2 => ?_, hK _ ?_⟩; (focus (obtain ⟨hc2, hf2⟩ := bcell hw2; go_simp; first | done | rfl)); clear hK K)
  (refine HW.q (i := 14) rfl (by kernel_rfl) (fun _ _ _ _ h => h) ?_ ?_; (focus ((try dsimp only); exact (by repeat' (first | (with_reducible exact Below.refl _ _) | (with_reducible assumption) | (with_reducible refine Below.alloc ?_ ?_ _) | (with_reducible refine below_drewN ?_ _) | (with_reducible refine Below.drew ?_) | (with_reducible refine Below.setCell ?_ ?_ _) | go_size)))); intro K hK; go_simp; apply Exists.intro; refine ⟨fun w2 hw2 => ?_, hK _ ?_⟩; (focus (obtain ⟨hc2, hf2⟩ := bcell hw2; go_simp; first | done | rfl)); clear hK K)
  refine HW.done (by kernel_rfl) ?_
  simp only [List.drop_succ_cons, List.drop_zero]
  clear hcT hcL
  go_wp2_with (go_at_call 116
               refine (decide_act pn hs hg A cl cc fv v B c lim key _ h1 h2 h3 h4 hk hh hg2).mono ?_
               rintro e w1 ⟨rfl, hb1⟩
               have hb1 : Below V.heap.size V w1 := below_to (by repeat' (first | (with_reducible exact Below.refl _ _) | (with_reducible assumption) | (with_reducible refine Below.alloc ?_ ?_ _) | (with_reducible refine below_drewN ?_ _) | (with_reducible refine Below.drew ?_) | (with_reducible refine Below.setCell ?_ ?_ _) | go_size)) hb1
               have hR1 := Lib.hid (hRV.out.below hb1 hrl)
               have hcR := fun i => hR1.out.cell i
               have hfR := fun i => hR1.out.frozen i
               have hr1 := hR1.out.lt
               simp only [planVal] at hcR
               simp only [planVal])
  have hR := hR1.out.setCs (planVal 10 0).toList w1 0
  have hbR : Below w.heap.size w (w1.setCells (w.heap.size + 1 + 1) 0 (planVal 10 0).toList) := below_setCs (g := w.heap.size + 1 + 1) (B := w.heap.size) _ _ _ (below_to hbV hb1) (by omega)
  obtain ⟨V9, HV9⟩ : ∃ V9, Hid (w1.setCells (w.heap.size + 1 + 1) 0 (planVal 10 0).toList = V9) := ⟨_, Lib.hid rfl⟩
  rw [HV9.out] at hR hbR
  simp only [planVal, World.setCells, Nat.zero_add, Nat.reduceAdd] at HV9
  rw [HV9.out]
  simp only [planVal, setN, List.set_cons_zero, List.set_cons_succ] at hR
  have hR : Blk V9 (w.heap.size + 1 + 1) 206 (planVal 10 0) := hR
  exact bodyPost_ret (v := .agg (planVal 10 0)) (results_cell rfl rfl hR Tryz.underlying206 rfl (by kernel_rfl)) rfl ⟨rfl, hbR⟩
set_option maxRecDepth 100000 in
set_option maxHeartbeats 2000000 in
theorem tdecide_ins (bt : Nat) (n : Int) (bg : Bool) (key val : ByteArray) (rs : ByteArray) (re nx : Value) (pn hs hg : Int) (A : Option Addr) (cl cc : Nat) (A4 : Option Addr) (n4 c4 : Nat) (v : Rl.LeafView) (B : Option Addr) (c : Nat) (lim : Rl.Limits) (w : World)
    (hT : Blk w bt 66 (thrC n bg 2 key val true rs re nx)) (h1 : (cl : Int) ≤ lim.chain) (h2 : 0 ≤ lim.rows)
    (h3 : v.low.size ≤ maxLen) (h4 : v.high.size ≤ maxLen) (hk : key.size ≤ maxLen) (hh : v.has key = true) (hg2 : v.gone = false) (hr0 : v.rows = []) (hV : OwnV w 0 (.slice B 0 c) v.rows) :
    Calls Tryz.prog 84 #[.pointer (some ⟨bt, 0, none⟩), .agg (pageVal pn hs hg (.slice A cl cc) (.slice A4 n4 c4) true v (.slice B 0 c)), .agg (limVal lim)] w fun e w' => e = .returned (.bool false) ∧ ∃ br bi bq bx bh bo bxa,
      Insts w' bt pn hs hg 3 (recN { kind := 2, key := key, value := val } hs hg) none 0 0 none 0 0 br (.slice none 0 0) n bg 2 key val true rs re (actFn bxa bo) bi bq bx bh ∧
      Blk w' bxa 25 #[.pointer (some ⟨bt, 0, none⟩)] ∧ Blk w' bo 29 #[.string ⟨#[]⟩, .nilIface] ∧ w.heap.size ≤ bi ∧ Fr [bt] w w' := by
  have hlt := hT.lt
  have HT := Lib.hid hT
  have HO := Lib.hid hV
  clear hT hV
  have hlt1 : bt < w.heap.size + 1 := by omega
  unfold limVal
  go_enter Tryz.func84, Tryz.ntmps84
  go_wp2_with (refine wpList_load_arr rfl 128 _ rfl w.heap.size 0 rfl (pageVal pn hs hg (.slice A cl cc) (.slice A4 n4 c4) true v (.slice B 0 c)) _ ?_ Tryz.underlying128 rfl ?_ ?_
               · exact (Blk.alloc (Blk.new_at rfl) _).rangeArr
               · kernel_rfl)
  refine (tplan_act bt n bg 2 key val rs re nx pn hs hg A cl cc _ v B c lim _ ((HT.out.alloc _).alloc _) h1 h2 h3 h4 hk hh hg2).mono ?_
  rintro e w1 ⟨rfl, hb1⟩
  have hP1 := Lib.hid (Blk.below (Blk.alloc (Blk.new_at (X := w) (b := w.heap.size) rfl) _) hb1 (by first | (simp; done) | (simp; omega) | omega))
  have hT1 := Lib.hid (Blk.below ((HT.out.alloc _).alloc _) hb1 (by first | (simp; done) | (simp; omega) | omega))
  have hb1 : Below w.heap.size w w1 := below_to (by repeat' (first | (with_reducible exact Below.refl _ _) | (with_reducible assumption) | (with_reducible refine Below.alloc ?_ ?_ _) | (with_reducible refine below_drewN ?_ _) | (with_reducible refine Below.drew ?_) | (with_reducible refine Below.setCell ?_ ?_ _) | go_size)) hb1
  have hO1 := Lib.hid (ownV_keep HO.out hb1)
  have hpl := hP1.out.lt
  have htl := hT1.out.lt
  have hs1 := hb1.size
  have hrg := Lib.hid hP1.out.rangeArr
  simp only [planVal]
  go_wp2_with (first
    | (refine wpList_load_arr rfl 128 _ rfl w.heap.size 0 rfl (pageVal pn hs hg (.slice A cl cc) (.slice A4 n4 c4) true v (.slice B 0 c)) _ ?_ Tryz.underlying128 rfl ?_ ?_
       · exact (Blk.alloc hP1.out _).rangeArr
       · kernel_rfl)
    | (go_at_call 106
       refine (act_ins bt pn hs hg A cl cc A4 n4 c4 v _ n bg key val true rs re nx _ (hT1.out.alloc _) (ownV_keep hO1.out (by repeat' (first | (with_reducible exact Below.refl _ _) | (with_reducible assumption) | (with_reducible refine Below.alloc ?_ ?_ _) | (with_reducible refine below_drewN ?_ _) | (with_reducible refine Below.drew ?_) | (with_reducible refine Below.setCell ?_ ?_ _) | go_size))) (by rw [hr0]; exact ⟨by simp, by simp⟩) hk (by rw [hr0]; rfl)).mono ?_
       rintro e w2 ⟨rfl, br, bi, bq, bx, bh, bo, bxa, hIn, hX, hO, hge, hF⟩
       have hge : w.heap.size ≤ bi := Nat.le_trans hs1 (by simp at hge; omega)))
  go_ret
  exact ⟨rfl, br, bi, bq, bx, bh, bo, bxa, hIn, hX, hO, hge, ((Fr.of_below hb1 [bt]).alloc _).trans hF⟩
end Go.Proofs.YthidclcliflhkaaGreat
end
