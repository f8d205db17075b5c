/- What the thread's small functions compute: contracts: NewThread, Start, Reply. What the thread's accesses do: contracts: bump. What the thread's accesses do: contracts: walk, again. The installer's beginning; a thread that installs: contracts. What the memory's functions compute: contracts, the third part: Alloc. -/
import Derived.Test.YthidclcliflhkaaGreatZ06
import Derived.Test.YthidclcliflhkaaGreatZ12
section
open Go Go.RowKit
namespace Go.Proofs.YthidclcliflhkaaGreat
open Rl (keyOk)

/-- A thread's cells: its inner page above, its batches and its sweeper as they are at first. -/
def thrC (n : Int) (begun : Bool) (kind : Int) (key val : ByteArray) (writes : Bool) (rs : ByteArray) (re next : Value) : Array Value :=
  #[.int .i64 n, .slice none 0 0, .bool begun, .int .i64 kind, .string key, .string val, .bool writes, .string rs, re, .pointer none, .pointer none, next,
    .bool false, .int .i64 0, .int .i64 0, .int .i64 0, .string ⟨#[]⟩, .string ⟨#[]⟩, .bool false, .int .i64 0, .slice none 0 0, .bool false, .int .i64 0, .int .i64 0, .string ⟨#[]⟩, .int .i64 0, .int .i64 0, .slice none 0 0, .int .i64 0, .int .i64 0]
theorem neq_nil (w : World) : (binOp .neq 32 .nilFunc .nilFunc).run Tryz.prog w = .ok (.bool false) w := by kernel_rfl
theorem neq_fn (f : Fn) (a b : Array Value) (w : World) : (binOp .neq 32 (.func f a b) .nilFunc).run Tryz.prog w = .ok (.bool true) w := by kernel_rfl
def bumpFn (bt : Nat) : Value := .func (.func 19) #[.pointer (some ⟨bt, 0, none⟩)] #[]
theorem Fr.set1 {F : List Nat} {w w1 : World} {g : Nat} (h : Fr F w w1) (hg : g ∈ F) (o : Nat) (u : Value) : Fr F w (w1.setCell ⟨g, o, none⟩ u) := h.setCell (p := ⟨g, o, none⟩) (.inl hg) u
theorem newthread_any (n : Int) (w : World) : Calls Tryz.prog 12 #[.int .i64 n] w fun e w' => e = .returned (.pointer (some ⟨w.heap.size, 0, none⟩)) ∧ Blk w' w.heap.size 66 (thrC n false 0 ⟨#[]⟩ ⟨#[]⟩ false ⟨#[]⟩ .nilIface .nilFunc) ∧ Below w.heap.size w w' := by
  go_enter Tryz.func12, Tryz.ntmps12
  go_wp2
  go_ret
  exact ⟨rfl, Blk.new_at rfl, (by repeat' (first | (with_reducible exact Below.refl _ _) | (with_reducible assumption) | (with_reducible refine Below.alloc ?_ ?_ _) | (with_reducible refine below_drewN ?_ _) | (with_reducible refine Below.drew ?_) | (with_reducible refine Below.setCell ?_ ?_ _) | go_size))⟩
set_option maxRecDepth 100000 in
set_option maxHeartbeats 400000 in
theorem start_ok (bt : Nat) (n : Int) (b0 : Bool) (k0 : Int) (key0 val0 : ByteArray) (w0 : Bool) (rs0 : ByteArray) (re0 : Value) (kind : Int) (key val : ByteArray) (w : World) (hT : Blk w bt 66 (thrC n b0 k0 key0 val0 w0 rs0 re0 .nilFunc)) (hk : key.size ≤ maxLen) (hv : val.size ≤ maxLen) (hr : callOk kind key val = true) :
    Calls Tryz.prog 10 #[.pointer (some ⟨bt, 0, none⟩), .agg #[.int .i64 kind, .string key, .string val]] w fun e w' => e = .returned .nilIface ∧ Blk w' bt 66 (thrC n true kind key val (kind != 1) ⟨#[]⟩ .nilIface (bumpFn bt)) ∧ Fr [bt] w w' := by
  have hlt := hT.lt
  have hc := fun i => hT.cell i
  have hf := fun i => hT.frozen i
  simp only [thrC] at hc
  have hnf := neq_nil
  have HT := Lib.hid hT
  clear hT
  go_enter Tryz.func10, Tryz.ntmps10
  go_wp2_with (first
    | (go_at_call 13
       refine (tright_any kind key val _ hk hv).mono ?_
       rintro e w1 ⟨rfl, hb1⟩
       rw [hr]
       have hX1 := Lib.hid (Blk.below (Blk.new_at (b := w.heap.size) rfl) hb1 (by first | (simp; done) | (simp; omega) | omega))
       have hx1 := hX1.out.lt
       have hb1 : Below w.heap.size w w1 := below_to (by repeat' (first | (with_reducible exact Below.refl _ _) | (with_reducible assumption) | (with_reducible refine Below.alloc ?_ ?_ _) | (with_reducible refine below_drewN ?_ _) | (with_reducible refine Below.drew ?_) | (with_reducible refine Below.setCell ?_ ?_ _) | go_size)) hb1
       have hT1 := Lib.hid (HT.out.below hb1 hlt)
       have hcX := fun i => hX1.out.cell i
       have hcT := fun i => hT1.out.cell i
       have hfT := fun i => hT1.out.frozen i
       simp only [thrC] at hcT)
    | go_in)
  go_region
  go_wp2_with fail
  have hY := (((((((((hT1.out.set_ 2 (.bool true)).set_ 3 (.int .i64 kind)).set_ 4 (.string key)).set_ 5 (.string val)).set_ 6 (.bool (kind != 1))).set_ 7 (.string ⟨#[]⟩)).set_ 8 .nilIface).set_ 11 (bumpFn bt)).set_ 9 (.pointer none)).drew
  have hm : bt ∈ [bt] := by simp
  have hF := ((((((((((Fr.of_below hb1 [bt]).set1 hm 2 (.bool true)).set1 hm 3 (.int .i64 kind)).set1 hm 4 (.string key)).set1 hm 5 (.string val)).set1 hm 6 (.bool (kind != 1))).set1 hm 7 (.string ⟨#[]⟩)).set1 hm 8 .nilIface).set1 hm 11 (bumpFn bt)).set1 hm 9 (.pointer none)).drew
  clear hcT hcX hfT hc hf hX1 hnf
  simp only [thrC, List.setIfInBounds_toArray, List.set_cons_succ, List.set_cons_zero] at hY
  obtain ⟨V9, HV9⟩ : ∃ V9, Hid ((((((((((w1.setCell ⟨bt, 2, none⟩ (.bool true)).setCell ⟨bt, 3, none⟩ (.int .i64 kind)).setCell ⟨bt, 4, none⟩ (.string key)).setCell ⟨bt, 5, none⟩ (.string val)).setCell ⟨bt, 6, none⟩ (.bool (kind != 1))).setCell ⟨bt, 7, none⟩ (.string ⟨#[]⟩)).setCell ⟨bt, 8, none⟩ .nilIface).setCell ⟨bt, 11, none⟩ (.func (.func 19) #[.pointer (some ⟨bt, 0, none⟩)] #[])).setCell ⟨bt, 9, none⟩ (.pointer none)).drew = V9) := ⟨_, Lib.hid rfl⟩
  simp only [bumpFn] at hF
  simp only [bumpFn] at hY
  rw [HV9.out] at hF hY ⊢
  have hY : Blk V9 bt 66 (thrC n true kind key val (kind != 1) ⟨#[]⟩ .nilIface (bumpFn bt)) := hY
  go_ret
  exact ⟨rfl, hY, hF⟩
set_option maxRecDepth 100000 in
theorem start_bad (a : Option Addr) (kind : Int) (key val : ByteArray) (w : World) (hk : key.size ≤ maxLen) (hv : val.size ≤ maxLen) (hr : callOk kind key val = false) (bt : Nat) :
    Calls Tryz.prog 10 #[.pointer (some ⟨bt, 0, none⟩), .agg #[.int .i64 kind, .string key, .string val]] w (RetB (.iface 34 (.int .i64 1)) w) := by
  go_enter Tryz.func10, Tryz.ntmps10
  go_wp2_with (go_at_call 13
               refine (tright_any kind key val _ hk hv).mono ?_
               rintro e w1 ⟨rfl, hb1⟩
               rw [hr]
               have hb1 : Below w.heap.size w w1 := below_to (by repeat' (first | (with_reducible exact Below.refl _ _) | (with_reducible assumption) | (with_reducible refine Below.alloc ?_ ?_ _) | (with_reducible refine below_drewN ?_ _) | (with_reducible refine Below.drew ?_) | (with_reducible refine Below.setCell ?_ ?_ _) | go_size)) hb1)
  go_ret
  exact ⟨rfl, hb1⟩
theorem start_nil (kind : Int) (key val : ByteArray) (w : World) :
    Calls Tryz.prog 10 #[.pointer none, .agg #[.int .i64 kind, .string key, .string val]] w (RetB (.iface 34 (.int .i64 1)) w) := by
  go_enter Tryz.func10, Tryz.ntmps10
  go_wp2_with fail
  go_ret
  exact ⟨rfl, (by repeat' (first | (with_reducible exact Below.refl _ _) | (with_reducible assumption) | (with_reducible refine Below.alloc ?_ ?_ _) | (with_reducible refine below_drewN ?_ _) | (with_reducible refine Below.drew ?_) | (with_reducible refine Below.setCell ?_ ?_ _) | go_size))⟩
set_option maxRecDepth 100000 in
theorem start_busy (bt : Nat) (f : Fn) (fa fb : Array Value) (kind : Int) (key val : ByteArray) (w : World) (hT : w.cell? ⟨bt, 11, none⟩ = some (.func f fa fb)) (hk : key.size ≤ maxLen) (hv : val.size ≤ maxLen) (hr : callOk kind key val = true) :
    Calls Tryz.prog 10 #[.pointer (some ⟨bt, 0, none⟩), .agg #[.int .i64 kind, .string key, .string val]] w (RetB (.iface 34 (.int .i64 11)) w) := by
  have hnf := neq_fn
  go_enter Tryz.func10, Tryz.ntmps10
  go_wp2_with (first
    | (go_at_call 13
       refine (tright_any kind key val _ hk hv).mono ?_
       rintro e w1 ⟨rfl, hb1⟩
       rw [hr]
       have hb1 : Below w.heap.size w w1 := below_to (by repeat' (first | (with_reducible exact Below.refl _ _) | (with_reducible assumption) | (with_reducible refine Below.alloc ?_ ?_ _) | (with_reducible refine below_drewN ?_ _) | (with_reducible refine Below.drew ?_) | (with_reducible refine Below.setCell ?_ ?_ _) | go_size)) hb1
       have hc1 := kept_cell hb1 hT)
    | go_in)
  go_ret
  exact ⟨rfl, hb1⟩
def replyVal (s : ByteArray) (e : Value) : Value := .agg #[.string s, e]
theorem reply_nil (w : World) : Calls Tryz.prog 5 #[.pointer none] w (RetB (.tuple #[.agg #[.string ⟨#[]⟩, .nilIface], .iface 34 (.int .i64 1)]) w) := by
  go_enter Tryz.func5, Tryz.ntmps5
  go_wp2_with go_in
  have hcc := fun i => Blk.cell (Blk.new_at (X := w) (b := w.heap.size) (t := 29) (cs := #[.string ⟨#[]⟩, .nilIface]) rfl) i
  refine bodyPost_ret (v := .tuple #[.agg #[.string ⟨#[]⟩, .nilIface], .iface 34 (.int .i64 1)]) ?_ rfl ⟨rfl, (by repeat' (first | (with_reducible exact Below.refl _ _) | (with_reducible assumption) | (with_reducible refine Below.alloc ?_ ?_ _) | (with_reducible refine below_drewN ?_ _) | (with_reducible refine Below.drew ?_) | (with_reducible refine Below.setCell ?_ ?_ _) | go_size))⟩
  simp [results, Tryz.results5, go_sem, hcc]
theorem reply_busy (bt : Nat) (f : Fn) (fa fb : Array Value) (w : World) (hT : w.cell? ⟨bt, 11, none⟩ = some (.func f fa fb)) : Calls Tryz.prog 5 #[.pointer (some ⟨bt, 0, none⟩)] w (RetB (.tuple #[.agg #[.string ⟨#[]⟩, .nilIface], .iface 34 (.int .i64 11)]) w) := by
  have hnf := neq_fn
  have hlt := World.block_lt_of_cell? w _ hT
  go_enter Tryz.func5, Tryz.ntmps5
  go_wp2_with go_in
  have hcc := fun i => Blk.cell (Blk.new_at (X := w) (b := w.heap.size) (t := 29) (cs := #[.string ⟨#[]⟩, .nilIface]) rfl) i
  refine bodyPost_ret (v := .tuple #[.agg #[.string ⟨#[]⟩, .nilIface], .iface 34 (.int .i64 11)]) ?_ rfl ⟨rfl, (by repeat' (first | (with_reducible exact Below.refl _ _) | (with_reducible assumption) | (with_reducible refine Below.alloc ?_ ?_ _) | (with_reducible refine below_drewN ?_ _) | (with_reducible refine Below.drew ?_) | (with_reducible refine Below.setCell ?_ ?_ _) | go_size))⟩
  simp [results, Tryz.results5, go_sem, hcc]
theorem reply_new (bt : Nat) (n : Int) (k0 : Int) (key0 val0 : ByteArray) (w0 : Bool) (rs0 : ByteArray) (re0 : Value) (w : World) (hT : Blk w bt 66 (thrC n false k0 key0 val0 w0 rs0 re0 .nilFunc)) :
    Calls Tryz.prog 5 #[.pointer (some ⟨bt, 0, none⟩)] w (RetB (.tuple #[.agg #[.string ⟨#[]⟩, .nilIface], .iface 34 (.int .i64 13)]) w) := by
  have hnf := neq_nil
  have hlt := hT.lt
  have hc := fun i => hT.cell i
  simp only [thrC] at hc
  go_enter Tryz.func5, Tryz.ntmps5
  go_wp2_with go_in
  have hcc := fun i => Blk.cell (Blk.new_at (X := w) (b := w.heap.size) (t := 29) (cs := #[.string ⟨#[]⟩, .nilIface]) rfl) i
  refine bodyPost_ret (v := .tuple #[.agg #[.string ⟨#[]⟩, .nilIface], .iface 34 (.int .i64 13)]) ?_ rfl ⟨rfl, (by repeat' (first | (with_reducible exact Below.refl _ _) | (with_reducible assumption) | (with_reducible refine Below.alloc ?_ ?_ _) | (with_reducible refine below_drewN ?_ _) | (with_reducible refine Below.drew ?_) | (with_reducible refine Below.setCell ?_ ?_ _) | go_size))⟩
  simp [results, Tryz.results5, go_sem, hcc]
theorem reply_done (bt : Nat) (n : Int) (k0 : Int) (key0 val0 : ByteArray) (w0 : Bool) (rs0 : ByteArray) (w : World) (hT : Blk w bt 66 (thrC n true k0 key0 val0 w0 rs0 .nilIface .nilFunc)) :
    Calls Tryz.prog 5 #[.pointer (some ⟨bt, 0, none⟩)] w (RetB (.tuple #[.agg #[.string rs0, .nilIface], .nilIface]) w) := by
  have hnf := neq_nil
  have hlt := hT.lt
  have hc := fun i => hT.cell i
  simp only [thrC] at hc
  go_enter Tryz.func5, Tryz.ntmps5
  go_wp2_with go_in
  have hcc := fun i => Blk.cell (Blk.new_at (X := w) (b := w.heap.size) (t := 29) (cs := #[.string rs0, .nilIface]) rfl) i
  refine bodyPost_ret (v := .tuple #[.agg #[.string rs0, .nilIface], .nilIface]) ?_ rfl ⟨rfl, (by repeat' (first | (with_reducible exact Below.refl _ _) | (with_reducible assumption) | (with_reducible refine Below.alloc ?_ ?_ _) | (with_reducible refine below_drewN ?_ _) | (with_reducible refine Below.drew ?_) | (with_reducible refine Below.setCell ?_ ?_ _) | go_size))⟩
  simp [results, Tryz.results5, go_sem, hcc]
end Go.Proofs.YthidclcliflhkaaGreat
end
section
open Go Go.RowKit
namespace Go.Proofs.YthidclcliflhkaaGreat

def enterFn (bx ba : Nat) : Value := .func (.func 42) #[] #[.pointer (some ⟨bx, 0, none⟩), .pointer (some ⟨ba, 0, none⟩)]
set_option maxRecDepth 100000 in
set_option maxHeartbeats 400000 in
theorem bump_ok (bt : Nat) (n : Int) (bg : Bool) (kind : Int) (key val : ByteArray) (wr : Bool) (rs : ByteArray) (re nx : Value) (b : MB) (lim : Rl.Limits) (count : Int) (S : List SlotV) (T : List Rl.Pg) (now : Int) (k : Nat) (D : DataW Unit) (w : World)
    (hT : Blk w bt 66 (thrC n bg kind key val wr rs re nx)) (hM : MemAt w b lim count S T now k D) (hn : now < lim.count) (h0 : 0 ≤ now) (hl : lim.count ≤ 1099511627776) (hc0 : 0 ≤ count) (hc1 : count ≤ 1099511627776) :
    Calls Tryz.prog 19 #[.pointer (some ⟨bt, 0, none⟩), .pointer (some ⟨b.m, 0, none⟩)] w fun e w' => e = .returned (.bool false) ∧ ∃ bx ba, Blk w' bx 25 #[.pointer (some ⟨bt, 0, none⟩)] ∧ Blk w' ba 3 #[.int .i64 (now + 1)] ∧
      Blk w' bt 66 (thrC n bg kind key val wr rs re (enterFn bx ba)) ∧ MemAt w' b lim (count + 1) S T (now + 1) k D ∧ Fr (bt :: b.F) w w' := by
  have hlt := hT.lt
  have hO := hM.off hT (by decide) (by decide) (by decide) (by decide) (by decide) (by decide) (by decide) (by decide)
  have hnF := hO.notF
  have hbF : ∀ g ∈ b.F, g < w.heap.size := by
    intro g hg
    simp [MB.F] at hg
    rcases hg with rfl | rfl | rfl | rfl | rfl
    · exact hM.m.lt
    · exact hM.a.s.lt
    · exact hM.t.p.lt
    · exact hM.c.c.lt
    · exact hM.c.m.lt
  have hxF : w.heap.size ∉ b.F := fun h => Nat.lt_irrefl _ (hbF _ h)
  have HT := Lib.hid hT
  have HM := Lib.hid hM
  clear hT hM
  go_enter Tryz.func19, Tryz.ntmps19
  go_wp2_with (first
    | (go_at_call 34
       refine (mbump_ok b lim count S T now k D _ (HM.out.below (by repeat' (first | (with_reducible exact Below.refl _ _) | (with_reducible assumption) | (with_reducible refine Below.alloc ?_ ?_ _) | (with_reducible refine below_drewN ?_ _) | (with_reducible refine Below.drew ?_) | (with_reducible refine Below.setCell ?_ ?_ _) | go_size))) hn h0 hl hc0 hc1).mono ?_
       rintro e w1 ⟨rfl, hM1, hF1⟩
       have HT1 := Lib.hid (hF1.blk (HT.out.alloc _) hnF)
       have h0x : Blk (w.alloc (.cells #[.pointer (some ⟨bt, 0, none⟩)] 25)) w.heap.size 25 #[.pointer (some ⟨bt, 0, none⟩)] := Blk.new_at rfl
       have HX1 := Lib.hid (hF1.blk h0x hxF)
       have HF1 := Lib.hid hF1
       have HM1 := Lib.hid hM1
       have ht1 := HT1.out.lt
       have hx1 := HX1.out.lt
       have hcT := fun i => HT1.out.cell i
       have hfT := fun i => HT1.out.frozen i
       have hcX := fun i => HX1.out.cell i
       simp only [thrC] at hcT
       clear hF1 hM1 h0x)
    | go_in)
  have hY := HT1.out.set_ 11 (enterFn w.heap.size w1.heap.size)
  simp only [thrC, List.setIfInBounds_toArray, List.set_cons_succ, List.set_cons_zero] at hY
  have hFX : Fr [bt] w1 (w1.setCell ⟨bt, 11, none⟩ (enterFn w.heap.size w1.heap.size)) := (Fr.refl _ _).setCell (p := ⟨bt, 11, none⟩) (.inl (by simp)) _
  have hM2 := HM1.out.fr hFX (HM1.out.off HT1.out (by decide) (by decide) (by decide) (by decide) (by decide) (by decide) (by decide) (by decide))
  have hne : w.heap.size ≠ bt := by omega
  have hX2 := HX1.out.far (p := ⟨bt, 11, none⟩) hne (enterFn w.heap.size w1.heap.size)
  have hF2 : Fr (bt :: b.F) w (w1.setCell ⟨bt, 11, none⟩ (enterFn w.heap.size w1.heap.size)) :=
    (((Fr.refl (bt :: b.F) w).alloc (.cells #[.pointer (some ⟨bt, 0, none⟩)] 25)).then_ HF1.out (by intro g hg; simp [hg])).trans (hFX.mono (by intro g hg; simp at hg; simp [hg]))
  go_ret
  refine ⟨rfl, w.heap.size, w1.heap.size, hX2.alloc _, Blk.new_at (by simp [World.setCell]), Blk.alloc (show Blk _ bt _ (thrC n bg kind key val wr rs re (enterFn w.heap.size w1.heap.size)) from hY) _, hM2.below ((Below.refl _ _).alloc (Nat.le_refl _) _), hF2.alloc _⟩
end Go.Proofs.YthidclcliflhkaaGreat
end
section
open Go Go.RowKit
namespace Go.Proofs.YthidclcliflhkaaGreat

def walkFn (bq bx : Nat) : Value := .func (.func 80) #[] #[.pointer (some ⟨bq, 0, none⟩), .pointer (some ⟨bx, 0, none⟩)]
/-- A thread that walks: its next access is its loader's. -/
structure Walks (w : World) (bt : Nat) (nn : Int) (n : Int) (bg : Bool) (kind : Int) (key val : ByteArray) (wr : Bool) (rs : ByteArray) (re : Value) (bl bq bx : Nat) : Prop where
  l : Blk w bl 203 (loadC nn false false 0 0 0 0 (.slice none 0 0) (.slice none 0 0) .nilIface)
  q : Blk w bq 188 #[.pointer (some ⟨bl, 0, none⟩)]
  x : Blk w bx 25 #[.pointer (some ⟨bt, 0, none⟩)]
  t : Blk w bt 66 (thrC n bg kind key val wr rs re (walkFn bq bx))
set_option maxRecDepth 100000 in
set_option maxHeartbeats 400000 in
theorem walk_ok (bt : Nat) (nn : Int) (n : Int) (bg : Bool) (kind : Int) (key val : ByteArray) (wr : Bool) (rs : ByteArray) (re nx : Value) (w : World) (hT : Blk w bt 66 (thrC n bg kind key val wr rs re nx)) :
    Calls Tryz.prog 63 #[.pointer (some ⟨bt, 0, none⟩), .int .i64 nn] w fun e w' => e = .returned (.bool false) ∧ ∃ bl bq bx, Walks w' bt nn n bg kind key val wr rs re bl bq bx ∧ w.heap.size ≤ bl ∧ Fr [bt] w w' := by
  have hlt := hT.lt
  have HT := Lib.hid hT
  clear hT
  go_enter Tryz.func63, Tryz.ntmps63
  go_wp2_with (first
    | (go_at_call 79
       refine (lbegin_any nn _).mono ?_
       rintro e w1 ⟨rfl, hL1, hb1⟩
       have HT1 := Lib.hid ((HT.out.alloc _).below hb1 (by first | (simp; done) | (simp; omega) | omega))
       have HX1 := Lib.hid (Blk.below (Blk.new_at (X := w) (b := w.heap.size) rfl) hb1 (by first | (simp; done) | (simp; omega) | omega))
       have HL1 := Lib.hid hL1
       have hbw : Below w.heap.size w w1 := below_to (by repeat' (first | (with_reducible exact Below.refl _ _) | (with_reducible assumption) | (with_reducible refine Below.alloc ?_ ?_ _) | (with_reducible refine below_drewN ?_ _) | (with_reducible refine Below.drew ?_) | (with_reducible refine Below.setCell ?_ ?_ _) | go_size)) hb1
       have hx1 := HX1.out.lt
       have ht1 := HT1.out.lt
       have hcT := fun i => HT1.out.cell i
       have hfT := fun i => HT1.out.frozen i
       have hcX := fun i => HX1.out.cell i
       simp only [thrC] at hcT
       clear hL1 hb1)
    | go_in)
  have hY := HT1.out.set_ 11 (walkFn w1.heap.size w.heap.size)
  simp only [thrC, List.setIfInBounds_toArray, List.set_cons_succ, List.set_cons_zero] at hY
  have hFX : Fr [bt] w1 (w1.setCell ⟨bt, 11, none⟩ (walkFn w1.heap.size w.heap.size)) := (Fr.refl _ _).setCell (p := ⟨bt, 11, none⟩) (.inl (by simp)) _
  have hne : w.heap.size ≠ bt := by omega
  have hX2 := HX1.out.far (p := ⟨bt, 11, none⟩) hne (walkFn w1.heap.size w.heap.size)
  have hL1 : Blk w1 (w.heap.size + 1) 203 (loadC nn false false 0 0 0 0 (.slice none 0 0) (.slice none 0 0) .nilIface) := by have h := HL1.out; simpa using h
  have hL2 := hL1.far (p := ⟨bt, 11, none⟩) (by simp; omega) (walkFn w1.heap.size w.heap.size)
  have hF2 : Fr [bt] w (w1.setCell ⟨bt, 11, none⟩ (walkFn w1.heap.size w.heap.size)) := (Fr.of_below hbw [bt]).trans hFX
  go_ret
  refine ⟨rfl, w.heap.size + 1, w1.heap.size, w.heap.size, ⟨Blk.alloc hL2 _, Blk.new_at (by simp [World.setCell]), hX2.alloc _, Blk.alloc (show Blk _ bt _ (thrC n bg kind key val wr rs re (walkFn w1.heap.size w.heap.size)) from hY) _⟩, Nat.le_succ _, hF2.alloc _⟩
end Go.Proofs.YthidclcliflhkaaGreat
end
section
open Go Go.RowKit
namespace Go.Proofs.YthidclcliflhkaaGreat

theorem eql_mk (f : Fn) (a b : Array Value) (w : World) : (binOp .eql 219 (.func f a b) .nilFunc).run Tryz.prog w = .ok (.bool false) w := by kernel_rfl
set_option maxRecDepth 100000 in
set_option maxHeartbeats 2000000 in
theorem ibegin_ok (br : Nat) (pn os og : Int) (r : Rl.Rec) (A1 A2 : Option Addr) (m1 c1 m2 c2 : Nat) (w : World)
    (hR : Blk w br 83 (recVal r (.slice A1 m1 c1) (.slice A2 m2 c2))) :
    Calls Tryz.prog 144 #[.agg (jobVal pn os og 0 (onlyFn br))] w fun e w' => ∃ bi, e = .returned (.pointer (some ⟨bi, 0, none⟩)) ∧ w.heap.size ≤ bi ∧
      Blk w' bi 257 (instC pn os og 0 (onlyFn br) 3 (.slice none 0 0) (.slice none 0 0) r (.slice A1 m1 c1) (.slice A2 m2 c2) (.slice none 0 0) 0 false .nilIface) ∧ Below w.heap.size w w' := by
  have hrl := hR.lt
  have HR := Lib.hid hR
  clear hR
  have hmk := eql_mk
  unfold jobVal onlyFn
  go_enter Tryz.func144, Tryz.ntmps144
  go_wp2_with (go_at_call 163
               refine (made0_ok (w.heap.size + 1) br pn os og r A1 A2 m1 c1 m2 c2 _ (Blk.new_at (by first | (simp; done) | (simp; omega) | omega)) ((HR.out.alloc _).alloc _)).mono ?_
               rintro e w1 ⟨⟨v1, rfl⟩, hI1, hF1⟩)
  have hb1 : Below w.heap.size w w1 := (show Below w.heap.size w ((w.alloc _).alloc _) from (by repeat' (first | (with_reducible exact Below.refl _ _) | (with_reducible assumption) | (with_reducible refine Below.alloc ?_ ?_ _) | (with_reducible refine below_drewN ?_ _) | (with_reducible refine Below.drew ?_) | (with_reducible refine Below.setCell ?_ ?_ _) | go_size))).trans (hF1.below (by first | (simp; done) | (simp; omega) | omega) (by simp))
  go_ret
  exact ⟨w.heap.size + 1, rfl, by omega, hI1, hb1⟩
set_option maxRecDepth 100000 in
set_option maxHeartbeats 2000000 in
theorem over_no (bi : Nat) (stage : Int) (w : World) (h : w.cell? ⟨bi, 5, none⟩ = some (.int .i64 stage)) (hs : ¬ stage = 7) :
    Calls Tryz.prog 164 #[.pointer (some ⟨bi, 0, none⟩)] w fun e w' => e = .returned (.bool false) ∧ w' = w := by
  go_enter Tryz.func164, Tryz.ntmps164
  go_wp2_with fail
  go_ret
  exact ⟨by simp [hs], rfl⟩
set_option maxRecDepth 100000 in
theorem over_yes (bi : Nat) (w : World) (h : w.cell? ⟨bi, 5, none⟩ = some (.int .i64 7)) :
    Calls Tryz.prog 164 #[.pointer (some ⟨bi, 0, none⟩)] w fun e w' => e = .returned (.bool true) ∧ w' = w := by
  go_enter Tryz.func164, Tryz.ntmps164
  go_wp2_with fail
  go_ret
  exact ⟨rfl, rfl⟩
end Go.Proofs.YthidclcliflhkaaGreat
end
section
open Go Go.RowKit
namespace Go.Proofs.YthidclcliflhkaaGreat

set_option maxRecDepth 100000 in
set_option maxHeartbeats 3000000 in
theorem malloc_any (b : MB) (lim : Rl.Limits) (count : Int) (S : List SlotV) (T : List Rl.Pg) (now : Int) (k : Nat) (D : DataW Unit) (k0 : Nat) (r : Rl.Rec) (rv ev : Value) (w : World) (hM : MemAt w b lim count S T now k D) (hr : RecAt w r rv ev) (hok : RecOk r) (hk : k0 < S.length) (hlen : S.length ≤ 4096)
    (hu : ∀ k (h : k < k0), S[k].s.used = true) (hk0 : S[k0].s.used = false) (hg0 : S[k0].s.gen < lim.count) (hlast : lim.count ≤ 1099511627776) (hg1 : 0 ≤ S[k0].s.gen) (hc0 : 0 ≤ count) (hc1 : count ≤ 1099511627776) :
    Calls Tryz.prog 181 #[.pointer (some ⟨b.m, 0, none⟩), .agg (recVal r rv ev)] w fun e w' => ∃ rv' ev', e = .returned (.tuple #[.agg #[.int .i64 (k0 + 1), .int .i64 (S[k0].s.gen + 1)], .nilIface]) ∧
      MemAt w' b lim (count + 1) (S.set k0 ⟨⟨S[k0].s.gen + 1, true, r⟩, rv', ev'⟩) T now k D ∧ Fr b.F w w' := by
  have hlt := hM.m.lt
  have hc := fun i => hM.m.cell i
  have hf := fun i => hM.m.frozen i
  have hw1 : IntKind.i64.wrap (count + 1) = count + 1 := IntWalk.i64_in _ (by omega)
  have hF0 : Fr b.F w (w.setCell ⟨b.m, 0, none⟩ (.int .i64 (count + 1))) := (Fr.refl _ w).setCell (p := ⟨b.m, 0, none⟩) (.inl (by simp [MB.F])) _
  have HR := Lib.hid (hr.fr ((Fr.refl [b.m] w).setCell (p := ⟨b.m, 0, none⟩) (.inl (by simp)) (.int .i64 (count + 1))) (freeOf_one hM.m (by decide)) (freeOf_one hM.m (by decide)))
  simp only [memCells] at hc
  have HM := Lib.hid hM
  clear hM hr
  go_enter Tryz.func181, Tryz.ntmps181
  go_wp2_with go_in
  refine wp_name ?_
  intro V HV
  clear hc hf
  have hMV : Hid (MemAt V b lim (count + 1) S T now k D) := Lib.hid (by rw [← HV.out]; exact HM.out.tick.below (by repeat' (first | (with_reducible exact Below.refl _ _) | (with_reducible assumption) | (with_reducible refine Below.alloc ?_ ?_ _) | (with_reducible refine below_drewN ?_ _) | (with_reducible refine Below.drew ?_) | (with_reducible refine Below.setCell ?_ ?_ _) | go_size)))
  have hRA : Hid (RecAt V r rv ev) := Lib.hid (by rw [← HV.out]; exact HR.out.keep (by repeat' (first | (with_reducible exact Below.refl _ _) | (with_reducible assumption) | (with_reducible refine Below.alloc ?_ ?_ _) | (with_reducible refine below_drewN ?_ _) | (with_reducible refine Below.drew ?_) | (with_reducible refine Below.setCell ?_ ?_ _) | go_size)))
  have hFV : Fr b.F w V := by rw [← HV.out]; exact (hF0.alloc _).alloc _
  have hXV : Hid (Blk V w.heap.size 83 (recVal r rv ev)) := Lib.hid (by rw [← HV.out]; exact Blk.alloc (Blk.new_at (by simp)) _)
  have hZV : Hid (Blk V (w.heap.size + 1) 55 #[.int .i64 0, .int .i64 0]) := Lib.hid (by rw [← HV.out]; exact Blk.new_at (by simp))
  have hsV : w.heap.size + 1 + 1 = V.heap.size := by rw [← HV.out]; simp
  clear HV HR
  have hcM := fun i => hMV.out.m.cell i
  simp only [memCells] at hcM
  have hcX := fun i => hXV.out.cell i
  simp only [recVal] at hcX
  have hsm : b.m < V.heap.size := by omega
  have hsx : w.heap.size < V.heap.size := by omega
  have hsz : w.heap.size + 1 < V.heap.size := by omega
  have hsb := hMV.out.a.s.lt
  have hn1 : b.m ≠ b.s := Blk.ne_ hMV.out.m hMV.out.a.s (by decide)
  have hn2 : w.heap.size ≠ b.s := Blk.ne_ hXV.out hMV.out.a.s (by decide)
  have hn3 : w.heap.size + 1 ≠ b.s := Blk.ne_ hZV.out hMV.out.a.s (by decide)
  refine wp_region_head 11 (fun w' => Fr [b.s] V w') (by kernel_rfl) (by kernel_rfl) ?_
  (refine HW.q (i := 0) rfl (by kernel_rfl) (fun _ _ _ _ h => h) ?_ ?_; (focus ((try dsimp only); exact (by repeat' (first | (with_reducible exact Fr.refl _ _) | (with_reducible assumption) | (with_reducible refine Fr.drew ?_) | (with_reducible refine Fr.drewN ?_ _) | (with_reducible refine Fr.alloc ?_ _))))); intro K hK; go_simp; first | (refine hK _ ?_; clear hK K) | (refine ⟨_, fun _ _ => rfl, hK _ ?_⟩; clear hK K))
  (refine HW.q (i := 1) rfl (by kernel_rfl) (fun _ _ _ _ h => h) ?_ ?_; (focus ((try dsimp only); exact (by repeat' (first | (with_reducible exact Fr.refl _ _) | (with_reducible assumption) | (with_reducible refine Fr.drew ?_) | (with_reducible refine Fr.drewN ?_ _) | (with_reducible refine Fr.alloc ?_ _))))); intro K hK; go_simp; first | (refine hK _ ?_; clear hK K) | (refine ⟨_, fun _ _ => rfl, hK _ ?_⟩; clear hK K))
  (refine HW.q (i := 2) rfl (by kernel_rfl) (fun _ _ _ _ h => h) ?_ ?_; (focus ((try dsimp only); exact (by repeat' (first | (with_reducible exact Fr.refl _ _) | (with_reducible assumption) | (with_reducible refine Fr.drew ?_) | (with_reducible refine Fr.drewN ?_ _) | (with_reducible refine Fr.alloc ?_ _))))); intro K hK; go_simp; first | (refine hK _ ?_; clear hK K) | (refine ⟨_, fun _ _ => rfl, hK _ ?_⟩; clear hK K))
  (refine HW.q (i := 3) rfl (by kernel_rfl) (fun _ _ _ _ h => h) ?_ ?_; (focus ((try dsimp only); exact (by repeat' (first | (with_reducible exact Fr.refl _ _) | (with_reducible assumption) | (with_reducible refine Fr.drew ?_) | (with_reducible refine Fr.drewN ?_ _) | (with_reducible refine Fr.alloc ?_ _))))); intro K hK; go_simp; apply Exists.intro; refine ⟨fun w2 hw2 => ?_, hK _ ?_⟩; (focus (obtain ⟨hc2, hf2⟩ := frcell hw2; go_simp; first | done | rfl)); clear hK K)
  (refine HW.q (i := 4) rfl (by kernel_rfl) (fun _ _ _ _ h => h) ?_ ?_; (focus ((try dsimp only); exact (by repeat' (first | (with_reducible exact Fr.refl _ _) | (with_reducible assumption) | (with_reducible refine Fr.drew ?_) | (with_reducible refine Fr.drewN ?_ _) | (with_reducible refine Fr.alloc ?_ _))))); intro K hK; go_simp; apply Exists.intro; refine ⟨fun w2 hw2 => ?_, hK _ ?_⟩; (focus (obtain ⟨hc2, hf2⟩ := frcell hw2; go_simp; first | done | rfl)); clear hK K)
  refine HW.two (i := 5) (j := 9) rfl rfl (by kernel_rfl) (by kernel_rfl) (by kernel_rfl) ?_ ?_
  case' refine_1 =>
    intro K hK
    go_simp
    go_at_call 27
    refine (aalloc_any b.a b.s S lim.count r rv ev k0 _ (hMV.out.below (by repeat' (first | (with_reducible exact Below.refl _ _) | (with_reducible assumption) | (with_reducible refine Below.alloc ?_ ?_ _) | (with_reducible refine below_drewN ?_ _) | (with_reducible refine Below.drew ?_) | (with_reducible refine Below.setCell ?_ ?_ _) | go_size))).a (hRA.out.keep (by repeat' (first | (with_reducible exact Below.refl _ _) | (with_reducible assumption) | (with_reducible refine Below.alloc ?_ ?_ _) | (with_reducible refine below_drewN ?_ _) | (with_reducible refine Below.drew ?_) | (with_reducible refine Below.setCell ?_ ?_ _) | go_size))) hok hk hlen hu hk0 hg0 hlast hg1).mono ?_
    rintro e w1 ⟨rv1, ev1, rfl, hA1, hF1⟩
    have hF1 : Fr [b.s] V w1 := ⟨hF1.os, hF1.tape, hF1.output, hF1.size, hF1.block⟩
    have hM1 := Lib.hid (hMV.out.arena hA1 hF1)
    have hs1 := hF1.size
    refine hK _ _ hF1 ?_
    clear hK K
    (refine HW.q (i := 6) rfl (by kernel_rfl) (fun _ _ _ _ h => h) ?_ ?_; (focus ((try dsimp only); exact (by repeat' (first | (with_reducible exact Fr.refl _ _) | (with_reducible assumption) | (with_reducible refine Fr.drew ?_) | (with_reducible refine Fr.drewN ?_ _) | (with_reducible refine Fr.alloc ?_ _))))); intro K hK; go_simp; first | (refine hK _ ?_; clear hK K) | (refine ⟨_, fun _ _ => rfl, hK _ ?_⟩; clear hK K))
    (refine HW.q (i := 7) rfl (by kernel_rfl) (fun _ _ _ _ h => h) ?_ ?_; (focus ((try dsimp only); exact (by repeat' (first | (with_reducible exact Fr.refl _ _) | (with_reducible assumption) | (with_reducible refine Fr.drew ?_) | (with_reducible refine Fr.drewN ?_ _) | (with_reducible refine Fr.alloc ?_ _))))); intro K hK; go_simp; first | (refine hK _ ?_; clear hK K) | (refine ⟨_, fun _ _ => rfl, hK _ ?_⟩; clear hK K))
    (refine HW.q (i := 8) rfl (by kernel_rfl) (fun _ _ _ _ h => h) ?_ ?_; (focus ((try dsimp only); exact (by repeat' (first | (with_reducible exact Fr.refl _ _) | (with_reducible assumption) | (with_reducible refine Fr.drew ?_) | (with_reducible refine Fr.drewN ?_ _) | (with_reducible refine Fr.alloc ?_ _))))); intro K hK; go_simp; first | (refine hK _ ?_; clear hK K) | (refine ⟨_, fun _ _ => rfl, hK _ ?_⟩; clear hK K))
    refine HW.solo (i := 9) rfl (by kernel_rfl) (by kernel_rfl) ?_
    intro K hK
    go_simp
    refine hK _ _ (by repeat' (first | (with_reducible exact Fr.refl _ _) | (with_reducible assumption) | (with_reducible refine Fr.drew ?_) | (with_reducible refine Fr.drewN ?_ _) | (with_reducible refine Fr.alloc ?_ _))) ?_
    clear hK K
    obtain ⟨W, HW⟩ : ∃ W, Hid (w1.alloc (.cells #[.int .i64 0, .int .i64 0] 55) = W) := ⟨_, Lib.hid rfl⟩
    obtain ⟨b6, Hb6⟩ : ∃ b6, Hid (w1.heap.size = b6) := ⟨_, Lib.hid rfl⟩
    have hFW : Fr [b.s] V W := by rw [← HW.out]; exact hF1.alloc _
    have hMW := Lib.hid (show MemAt W b lim (count + 1) _ T now k D by rw [← HW.out]; exact hM1.out.below (by repeat' (first | (with_reducible exact Below.refl _ _) | (with_reducible assumption) | (with_reducible refine Below.alloc ?_ ?_ _) | (with_reducible refine below_drewN ?_ _) | (with_reducible refine Below.drew ?_) | (with_reducible refine Below.setCell ?_ ?_ _) | go_size)))
    have hYW : Hid (Blk W b6 55 #[.int .i64 0, .int .i64 0]) := Lib.hid (by rw [← HW.out, ← Hb6.out]; exact Blk.new_at rfl)
    have hb6 : V.heap.size ≤ b6 := by rw [← Hb6.out]; exact hs1
    rw [HW.out, Hb6.out]
    clear HW Hb6 hM1 hA1 hF1 hs1
  case' refine_2 =>
    intro K hK
    go_simp
    refine hK _ _ (by repeat' (first | (with_reducible exact Fr.refl _ _) | (with_reducible assumption) | (with_reducible refine Fr.drew ?_) | (with_reducible refine Fr.drewN ?_ _) | (with_reducible refine Fr.alloc ?_ _))) ?_
    clear hK K
    refine HW.solo (i := 5) rfl (by kernel_rfl) (by kernel_rfl) ?_
    intro K hK
    go_simp
    go_at_call 27
    refine (aalloc_any b.a b.s S lim.count r rv ev k0 _ (hMV.out.below (by repeat' (first | (with_reducible exact Below.refl _ _) | (with_reducible assumption) | (with_reducible refine Below.alloc ?_ ?_ _) | (with_reducible refine below_drewN ?_ _) | (with_reducible refine Below.drew ?_) | (with_reducible refine Below.setCell ?_ ?_ _) | go_size))).a (hRA.out.keep (by repeat' (first | (with_reducible exact Below.refl _ _) | (with_reducible assumption) | (with_reducible refine Below.alloc ?_ ?_ _) | (with_reducible refine below_drewN ?_ _) | (with_reducible refine Below.drew ?_) | (with_reducible refine Below.setCell ?_ ?_ _) | go_size))) hok hk hlen hu hk0 hg0 hlast hg1).mono ?_
    rintro e w1 ⟨rv1, ev1, rfl, hA1, hF1⟩
    have h0 : Blk (V.drew.alloc (.cells #[.int .i64 0, .int .i64 0] 55)) V.heap.size 55 #[.int .i64 0, .int .i64 0] := Blk.new_at (X := V.drew) (b := V.heap.size) rfl
    have hYW : Hid (Blk w1 V.heap.size 55 #[.int .i64 0, .int .i64 0]) := Lib.hid (hF1.blk h0 (by simp; omega))
    have hM1 := Lib.hid ((hMV.out.below (w1 := V.drew.alloc (.cells #[.int .i64 0, .int .i64 0] 55)) (by repeat' (first | (with_reducible exact Below.refl _ _) | (with_reducible assumption) | (with_reducible refine Below.alloc ?_ ?_ _) | (with_reducible refine below_drewN ?_ _) | (with_reducible refine Below.drew ?_) | (with_reducible refine Below.setCell ?_ ?_ _) | go_size))).arena hA1 hF1)
    have hF1 : Fr [b.s] V w1 := (((Fr.refl [b.s] V).drew).alloc (.cells #[.int .i64 0, .int .i64 0] 55)).trans hF1
    refine hK _ _ hF1 ?_
    clear hK K
    (refine HW.q (i := 6) rfl (by kernel_rfl) (fun _ _ _ _ h => h) ?_ ?_; (focus ((try dsimp only); exact (by repeat' (first | (with_reducible exact Fr.refl _ _) | (with_reducible assumption) | (with_reducible refine Fr.drew ?_) | (with_reducible refine Fr.drewN ?_ _) | (with_reducible refine Fr.alloc ?_ _))))); intro K hK; go_simp; first | (refine hK _ ?_; clear hK K) | (refine ⟨_, fun _ _ => rfl, hK _ ?_⟩; clear hK K))
    (refine HW.q (i := 7) rfl (by kernel_rfl) (fun _ _ _ _ h => h) ?_ ?_; (focus ((try dsimp only); exact (by repeat' (first | (with_reducible exact Fr.refl _ _) | (with_reducible assumption) | (with_reducible refine Fr.drew ?_) | (with_reducible refine Fr.drewN ?_ _) | (with_reducible refine Fr.alloc ?_ _))))); intro K hK; go_simp; first | (refine hK _ ?_; clear hK K) | (refine ⟨_, fun _ _ => rfl, hK _ ?_⟩; clear hK K))
    (refine HW.q (i := 8) rfl (by kernel_rfl) (fun _ _ _ _ h => h) ?_ ?_; (focus ((try dsimp only); exact (by repeat' (first | (with_reducible exact Fr.refl _ _) | (with_reducible assumption) | (with_reducible refine Fr.drew ?_) | (with_reducible refine Fr.drewN ?_ _) | (with_reducible refine Fr.alloc ?_ _))))); intro K hK; go_simp; first | (refine hK _ ?_; clear hK K) | (refine ⟨_, fun _ _ => rfl, hK _ ?_⟩; clear hK K))
    obtain ⟨W, HW⟩ : ∃ W, Hid (w1 = W) := ⟨_, Lib.hid rfl⟩
    obtain ⟨b6, Hb6⟩ : ∃ b6, Hid (V.heap.size = b6) := ⟨_, Lib.hid rfl⟩
    have hFW : Fr [b.s] V W := by rw [← HW.out]; exact hF1
    have hMW := Lib.hid (show MemAt W b lim (count + 1) _ T now k D by rw [← HW.out]; exact hM1.out)
    have hb6 : V.heap.size ≤ b6 := by rw [← Hb6.out]; exact Nat.le_refl _
    have hYW : Hid (Blk W b6 55 #[.int .i64 0, .int .i64 0]) := Lib.hid (by rw [← HW.out, ← Hb6.out]; exact hYW.out)
    rw [HW.out, Hb6.out]
    clear HW Hb6 hM1 hA1 hF1
  all_goals
    have hb2 : Fr [b.s] V (W.setCells b6 0 [.int .i64 (k0 + 1), .int .i64 (S[k0].s.gen + 1)]) := Fr.setCs _ _ _ hFW (.inr hb6)
    refine HW.solo (i := 10) rfl (by kernel_rfl) (by kernel_rfl) ?_
    intro K hK
    refine wp_store_mid 55 _ _ rfl b6 0 #[.int .i64 (k0 + 1), .int .i64 (S[k0].s.gen + 1)] rfl rfl (hYW.out.there 0 2 (by simp)) (by kernel_rfl) (two_one _ _ rfl rfl) ?_
    refine hK _ _ hb2 ?_
    clear hK K
    have hY2 := hYW.out.setCs [.int .i64 (k0 + 1), .int .i64 (S[k0].s.gen + 1)] W 0
    have hFY : Fr [b6] W (W.setCells b6 0 [.int .i64 (k0 + 1), .int .i64 (S[k0].s.gen + 1)]) := Fr.setCs _ _ _ (Fr.refl _ _) (.inl (by simp))
    have hM2 := hMW.out.fr hFY (hMW.out.offRef hYW.out)
    obtain ⟨V2, HV2⟩ : ∃ V2, Hid (W.setCells b6 0 [.int .i64 (k0 + 1), .int .i64 (S[k0].s.gen + 1)] = V2) := ⟨_, Lib.hid rfl⟩
    rw [HV2.out] at hb2 hY2 hM2 ⊢
    simp only [setN, List.set_cons_zero, List.set_cons_succ] at hY2
    have hM2 := Lib.hid hM2
    have hZ2 := Lib.hid (hb2.blk hZV.out (by simpa using hn3))
    have hY2 := Lib.hid hY2
    have hcY := fun i => hY2.out.cell i
    have hcZ := fun i => hZ2.out.cell i
    have hfZ := fun i => hZ2.out.frozen i
    have hy2 := hY2.out.lt
    have hz2 := hZ2.out.lt
    clear HV2 hFY hcM hcX hYW hFW hMW
    refine HW.done (by kernel_rfl) ?_
    simp only [List.drop_succ_cons, List.drop_zero]
    go_wp2_with fail
    refine wp_region_head 3 (fun w' => Below V2.heap.size V2 w') (by kernel_rfl) (by kernel_rfl) ?_
    (refine HW.q (i := 0) rfl (by kernel_rfl) (fun _ _ _ _ h => h) ?_ ?_; (focus ((try dsimp only); exact (by repeat' (first | (with_reducible exact Below.refl _ _) | (with_reducible assumption) | (with_reducible refine Below.alloc ?_ ?_ _) | (with_reducible refine below_drewN ?_ _) | (with_reducible refine Below.drew ?_) | (with_reducible refine Below.setCell ?_ ?_ _) | go_size)))); intro K hK; go_simp; apply Exists.intro; refine ⟨fun w2 hw2 => ?_, hK _ ?_⟩; (focus (obtain ⟨hc2, hf2⟩ := bcell hw2; go_simp; first | done | rfl)); clear hK K)
    (refine HW.q (i := 1) rfl (by kernel_rfl) (fun _ _ _ _ h => h) ?_ ?_; (focus ((try dsimp only); exact (by repeat' (first | (with_reducible exact Below.refl _ _) | (with_reducible assumption) | (with_reducible refine Below.alloc ?_ ?_ _) | (with_reducible refine below_drewN ?_ _) | (with_reducible refine Below.drew ?_) | (with_reducible refine Below.setCell ?_ ?_ _) | go_size)))); intro K hK; go_simp; first | (refine hK _ ?_; clear hK K) | (refine ⟨_, fun _ _ => rfl, hK _ ?_⟩; clear hK K))
    (refine HW.solo (i := 2) rfl (by kernel_rfl) (by kernel_rfl) ?_; intro K hK; go_simp)
    go_at_call 40
    refine (at_nil _ _ _).mono ?_
    rintro e w3 ⟨rfl, rfl⟩
    refine hK _ _ (by repeat' (first | (with_reducible exact Below.refl _ _) | (with_reducible assumption) | (with_reducible refine Below.alloc ?_ ?_ _) | (with_reducible refine below_drewN ?_ _) | (with_reducible refine Below.drew ?_) | (with_reducible refine Below.setCell ?_ ?_ _) | go_size)) ?_
    clear hK K
    refine HW.done (by kernel_rfl) ?_
    simp only [List.drop_succ_cons, List.drop_zero]
    go_wp2_with fail
    have hR := ((hZ2.out.set_ 0 (.int .i64 (k0 + 1))).set_ 1 (.int .i64 (S[k0].s.gen + 1))).drew
    have hFX : Fr [w.heap.size + 1] V2 ((V2.setCell ⟨w.heap.size + 1, 0, none⟩ (.int .i64 (k0 + 1))).setCell ⟨w.heap.size + 1, 1, none⟩ (.int .i64 (S[k0].s.gen + 1))).drew :=
      (((Fr.refl _ _).setCell (p := ⟨w.heap.size + 1, 0, none⟩) (.inl (by simp)) _).setCell (p := ⟨w.heap.size + 1, 1, none⟩) (.inl (by simp)) _).drew
    obtain ⟨V3, HV3⟩ : ∃ V3, Hid (((V2.setCell ⟨w.heap.size + 1, 0, none⟩ (.int .i64 (k0 + 1))).setCell ⟨w.heap.size + 1, 1, none⟩ (.int .i64 (S[k0].s.gen + 1))).drew = V3) := ⟨_, Lib.hid rfl⟩
    rw [HV3.out] at hR hFX ⊢
    clear HV3
    have hM3 := hM2.out.fr hFX (hM2.out.offRef hZ2.out)
    have hF3 := (hFV.trans (hb2.mm (by simp [MB.F]))).then_ hFX (by simp)
    have hcc := fun i => Blk.cell hR i
    refine bodyPost_ret (v := .tuple #[.agg #[.int .i64 (k0 + 1), .int .i64 (S[k0].s.gen + 1)], .nilIface]) ?_ rfl ⟨rv1, ev1, rfl, hM3, hF3⟩
    simp [results, Tryz.results181, go_sem, hcc]
end Go.Proofs.YthidclcliflhkaaGreat
end
