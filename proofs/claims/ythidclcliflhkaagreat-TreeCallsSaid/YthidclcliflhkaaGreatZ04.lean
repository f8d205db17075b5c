/- Words for the shared memory: structs one behind the other, worlds that differ in few blocks, records, slots, pages, the boxes of the memory. Several stores into one block; worlds under a name. Results that lie in a cell: a struct, read whole. What the arena's functions compute: contracts. Regions that draw their order: a head of operations whose values hold in every world of a class, and of calls; behind it a tail in one order. (After the guide's laws on still heads and held worlds.) -/
import Derived.Test.YthidclcliflhkaaGreatZ03
import Derived.Maps.OwnSet
import Derived.Maps.OwnOps
import Derived.Deep.RegionWith
import Derived.Deep.RegionLaw
import Derived.Deep.MidRow
import Derived.BigQuiet
import Derived.StillTail
import Derived.OrdersHeld
import Derived.Test.YthidclcliflhkaaGreatProg
section
open Go Go.RowKit
namespace Go.Proofs.YthidclcliflhkaaGreat

section
variable {α : Type} {f : α → List Value} {k : Nat}
theorem flat_length (hf : ∀ a, (f a).length = k) : ∀ l : List α, (l.flatMap f).length = l.length * k
  | [] => by simp
  | a :: l => by rw [List.flatMap_cons, List.length_append, hf, flat_length hf l, List.length_cons, Nat.add_mul, Nat.one_mul, Nat.add_comm]
theorem flat_get (hf : ∀ a, (f a).length = k) : ∀ (l : List α) (i j : Nat) (h : i < l.length), j < k → (l.flatMap f)[i * k + j]? = (f l[i])[j]?
  | [], i, j, h, hj => by simp at h
  | a :: l, 0, j, h, hj => by
    rw [List.flatMap_cons, List.getElem?_append_left (by rw [hf]; omega), Nat.zero_mul, Nat.zero_add]; rfl
  | a :: l, i + 1, j, h, hj => by
    rw [List.flatMap_cons, List.getElem?_append_right (by rw [hf, Nat.add_mul]; omega), hf, show (i + 1) * k + j - k = i * k + j by rw [Nat.add_mul]; omega, flat_get hf l i j (by simpa using h) hj]; rfl
end

/-- Cells from a place on turned. -/
def setN (l : List Value) (o : Nat) : List Value → List Value
  | [] => l
  | v :: vs => setN (l.set o v) (o + 1) vs
theorem setN_mid : ∀ (vs a p b : List Value), a.length = vs.length → setN (p ++ (a ++ b)) p.length vs = p ++ (vs ++ b)
  | [], a, p, b, h => by
    obtain rfl := List.eq_nil_of_length_eq_zero h; rfl
  | v :: vs, [], p, b, h => by simp at h
  | v :: vs, x :: a, p, b, h => by
    have h1 := setN_mid vs a (p ++ [v]) b (by simpa using h)
    have h2 : (p ++ (x :: a ++ b)).set p.length v = p ++ [v] ++ (a ++ b) := by
      rw [List.set_append_right _ _ (Nat.le_refl _), Nat.sub_self, List.cons_append, List.set_cons_zero, List.append_assoc]; rfl
    show setN ((p ++ (x :: a ++ b)).set p.length v) (p.length + 1) vs = _
    rw [h2, show p.length + 1 = (p ++ [v]).length by simp, h1, List.append_assoc]; rfl
theorem setN_flat {α : Type} {f : α → List Value} {k : Nat} (hf : ∀ a, (f a).length = k) (l : List α) (i : Nat) (x : α) (h : i < l.length) : setN (l.flatMap f) (i * k) (f x) = (l.set i x).flatMap f := by
  have e1 : l.flatMap f = (l.take i).flatMap f ++ (f l[i] ++ (l.drop (i + 1)).flatMap f) := by
    rw [← List.flatMap_cons, ← List.drop_eq_getElem_cons h, ← List.flatMap_append, List.take_append_drop]
  have e2 : ((l.take i).flatMap f).length = i * k := by rw [flat_length hf, List.length_take, Nat.min_eq_left (by omega)]
  rw [e1, ← e2, setN_mid _ _ _ _ (by rw [hf, hf]), List.set_eq_take_append_cons_drop, if_pos h, List.flatMap_append, List.flatMap_cons]
theorem Blk.setCs {g : Nat} {t : TypeId} : ∀ (vs : List Value) (w : World) (o : Nat) (cs : List Value), Blk w g t cs.toArray → Blk (w.setCells g o vs) g t (setN cs o vs).toArray
  | [], w, o, cs, h => h
  | v :: vs, w, o, cs, h => Blk.setCs vs (w.setCell ⟨g, o, none⟩ v) (o + 1) (cs.set o v) (by
    have := h.set_ o v
    simpa using this)
theorem Blk.there {w : World} {g : Nat} {t : TypeId} {cs : Array Value} (h : Blk w g t cs) (o n : Nat) (hn : o + n ≤ cs.size) : w.there g o n := fun j hj => by
  rw [h.cell, h.frozen]
  simp
  omega
theorem Blk.range {w : World} {g : Nat} {t : TypeId} {cs : Array Value} (h : Blk w g t cs) (o : Nat) (vs : List Value) (hv : ∀ j v, vs[j]? = some v → cs[o + j]? = some v) : w.rangeAt g o vs := fun j v hj => (h.cell _).trans (hv j v hj)
theorem Blk.farCs {g g' : Nat} {t : TypeId} {cs : Array Value} (hne : g ≠ g') : ∀ (vs : List Value) (w : World) (o : Nat), Blk w g t cs → Blk (w.setCells g' o vs) g t cs
  | [], _, _, h => h
  | v :: vs, w, o, h => Blk.farCs hne vs (w.setCell ⟨g', o, none⟩ v) (o + 1) (h.far (p := ⟨g', o, none⟩) hne v)
theorem ownsRow_setCs {base : Nat} {e : TypeId} {size n g : Nat} {v : Value} {xs : List Value} : ∀ (vs : List Value) (w : World) (o : Nat), w.ownsRow base e size v n xs → g < base → (w.setCells g o vs).ownsRow base e size v n xs
  | [], _, _, h, _ => h
  | u :: vs, w, o, h, hg => ownsRow_setCs vs (w.setCell ⟨g, o, none⟩ u) (o + 1) (ownsRow_setCell_below h (a := ⟨g, o, none⟩) hg u) hg
theorem below_setCs {a : World} {B g : Nat} : ∀ (vs : List Value) (w : World) (o : Nat), Below B a w → B ≤ g → Below B a (w.setCells g o vs)
  | [], _, _, h, _ => h
  | u :: vs, w, o, h, hg => below_setCs vs (w.setCell ⟨g, o, none⟩ u) (o + 1) (Below.setCell h (p := ⟨g, o, none⟩) hg u) hg
theorem size_setCs {g : Nat} : ∀ (vs : List Value) (w : World) (o : Nat), (w.setCells g o vs).heap.size = w.heap.size
  | [], _, _ => rfl
  | u :: vs, w, o => (size_setCs vs (w.setCell ⟨g, o, none⟩ u) (o + 1)).trans (by simp [World.setCell])
/-- A world that differs from another one in some blocks alone, but for new ones. -/
structure Fr (F : List Nat) (w w' : World) : Prop where
  os : w'.os = w.os
  tape : w'.tape = w.tape
  output : w'.output = w.output
  size : w.heap.size ≤ w'.heap.size
  block : ∀ k, k < w.heap.size → k ∉ F → w'.heap[k]? = w.heap[k]?
section
variable {F G : List Nat} {w w1 w2 : World}
theorem Fr.refl (F : List Nat) (w : World) : Fr F w w := ⟨rfl, rfl, rfl, Nat.le_refl _, fun _ _ _ => rfl⟩
theorem Fr.trans (h : Fr F w w1) (k : Fr F w1 w2) : Fr F w w2 :=
  ⟨k.os.trans h.os, k.tape.trans h.tape, k.output.trans h.output, Nat.le_trans h.size k.size, fun i hi hf => (k.block i (Nat.lt_of_lt_of_le hi h.size) hf).trans (h.block i hi hf)⟩
theorem Fr.then_ (h : Fr F w w1) (k : Fr G w1 w2) (hg : ∀ g ∈ G, g ∈ F ∨ w.heap.size ≤ g) : Fr F w w2 :=
  ⟨k.os.trans h.os, k.tape.trans h.tape, k.output.trans h.output, Nat.le_trans h.size k.size, fun i hi hf => (k.block i (Nat.lt_of_lt_of_le hi h.size) (fun hm => by
    rcases hg i hm with h1 | h1
    · exact hf h1
    · omega)).trans (h.block i hi hf)⟩
theorem Fr.mono (h : Fr F w w1) (hf : ∀ g ∈ F, g ∈ G) : Fr G w w1 := ⟨h.os, h.tape, h.output, h.size, fun k hk hm => h.block k hk fun hn => hm (hf k hn)⟩
theorem Fr.of_below (h : Below w.heap.size w w1) (F : List Nat) : Fr F w w1 := ⟨h.os, h.tape, h.output, h.size, fun k hk _ => h.block k hk⟩
theorem Fr.drew (h : Fr F w w1) : Fr F w w1.drew := ⟨h.os, h.tape, h.output, h.size, h.block⟩
theorem Fr.drewN (h : Fr F w w1) (n : Nat) : Fr F w (w1.drewN n) := h.then_ (G := []) (Fr.of_below (below_drewN (Below.refl _ _) n) _) (by simp)
theorem Fr.alloc (h : Fr F w w1) (o : Obj) : Fr F w (w1.alloc o) := h.then_ (G := []) (Fr.of_below ((Below.refl _ _).alloc (Nat.le_refl _) o) _) (by simp)
theorem Fr.setCell (h : Fr F w w1) {p : Addr} (hp : p.block ∈ F ∨ w.heap.size ≤ p.block) (u : Value) : Fr F w (w1.setCell p u) :=
  h.then_ (G := [p.block]) ⟨rfl, rfl, rfl, by simp [World.setCell], fun k _ hk => Below.heap_setCell _ _ _ _ (by simpa using hk)⟩ (by simpa using hp)
theorem Fr.setCs {g : Nat} : ∀ (vs : List Value) (w1 : World) (o : Nat), Fr F w w1 → (g ∈ F ∨ w.heap.size ≤ g) → Fr F w (w1.setCells g o vs)
  | [], _, _, h, _ => h
  | v :: vs, w1, o, h, hg => Fr.setCs vs (w1.setCell ⟨g, o, none⟩ v) (o + 1) (h.setCell hg v) hg
theorem Fr.below (h : Fr F w w1) {B : Nat} (hB : B ≤ w.heap.size) (hF : ∀ g ∈ F, B ≤ g) : Below B w w1 :=
  ⟨h.os, h.tape, h.output, h.size, fun k hk => h.block k (by omega) fun hm => by have := hF k hm; omega⟩
theorem Fr.then_below (h : Fr F w w1) (k : Below w1.heap.size w1 w2) : Fr F w w2 := h.trans (Fr.of_below k F)
theorem Fr.blk {g : Nat} {t : TypeId} {cs : Array Value} (h : Fr F w w1) (hb : Blk w g t cs) (hg : g ∉ F) : Blk w1 g t cs := (h.block g hb.lt hg).trans hb
theorem Fr.heap {g : Nat} {o : Obj} (h : Fr F w w1) (hb : w.heap[g]? = some o) (hg : g ∉ F) : w1.heap[g]? = some o := by
  refine (h.block g ?_ hg).trans hb
  rcases Nat.lt_or_ge g w.heap.size with hlt | hge
  · exact hlt
  · rw [Array.getElem?_eq_none hge] at hb; cases hb
end
/-- No block of these bears that type. -/
def FreeOf (w : World) (F : List Nat) (t : TypeId) : Prop := ∀ g ∈ F, ∀ cs fr, w.heap[g]? ≠ some (.cells cs t fr)
theorem Fr.own {F : List Nat} {w w1 : World} (h : Fr F w w1) {base : Nat} {e : TypeId} {size n : Nat} {v : Value} {xs : List Value} (ho : w.ownsRow base e size v n xs) (hf : FreeOf w F e) : w1.ownsRow base e size v n xs := by
  rcases ho with ⟨hl, h0 | ⟨g, cap, cur, rfl, hg, hh, rest⟩⟩
  · exact ⟨hl, .inl h0⟩
  · exact ⟨hl, .inr ⟨g, cap, cur, rfl, hg, h.heap hh (fun hm => hf g hm _ _ hh), rest⟩⟩
theorem Fr.ownV {F : List Nat} {w w1 : World} (h : Fr F w w1) {base : Nat} {rv : Value} {l : List Rl.Row} (ho : OwnV w base rv l) (hf : FreeOf w F 50) : OwnV w1 base rv l := by
  obtain ⟨A, c, rfl, hc, ho⟩ := ho
  exact ⟨A, c, rfl, hc, h.own ho hf⟩
/-- The cells of entries. -/
def entCells (l : List Rl.Entry) : List Value := l.flatMap fun r => [.string r.key, .int .i64 r.page]
theorem entCells_length (l : List Rl.Entry) : (entCells l).length = l.length * 2 := flat_length (f := fun r : Rl.Entry => [Value.string r.key, .int .i64 r.page]) (k := 2) (fun _ => rfl) l
theorem entCells_one (l : List Rl.Entry) : ∀ u ∈ entCells l, u.oneCell' = true := by
  intro u hu
  simp only [entCells, List.mem_flatMap] at hu
  obtain ⟨r, _, hr⟩ := hu
  simp at hr
  rcases hr with rfl | rfl <;> rfl
def EntsR (w : World) (B : Nat) (A : Option Addr) (l : List Rl.Entry) : Prop := Reads w B 2 A l.length (entCells l)
def OwnE (w : World) (base : Nat) (ev : Value) (l : List Rl.Entry) : Prop := ∃ A c, ev = .slice A l.length c ∧ l.length ≤ c ∧ w.ownsRow base 132 2 (.slice A l.length c) l.length (entCells l)
theorem Fr.ownE {F : List Nat} {w w1 : World} (h : Fr F w w1) {base : Nat} {ev : Value} {l : List Rl.Entry} (ho : OwnE w base ev l) (hf : FreeOf w F 132) : OwnE w1 base ev l := by
  obtain ⟨A, c, rfl, hc, ho⟩ := ho
  exact ⟨A, c, rfl, hc, h.own ho hf⟩
theorem OwnE.keep {w w' : World} {base : Nat} {ev : Value} {l : List Rl.Entry} (h : OwnE w base ev l) (hb : Below w.heap.size w w') : OwnE w' base ev l := by
  obtain ⟨A, c, rfl, hc, ho⟩ := h
  exact ⟨A, c, rfl, hc, ownsRow_keep ho hb⟩
theorem OwnV.base {w : World} {base base' : Nat} {rv : Value} {l : List Rl.Row} (h : OwnV w base rv l) (hb : base' ≤ base) : OwnV w base' rv l := by
  obtain ⟨A, c, rfl, hc, ho⟩ := h
  exact ⟨A, c, rfl, hc, ownsRow_base ho hb⟩
theorem OwnE.base {w : World} {base base' : Nat} {ev : Value} {l : List Rl.Entry} (h : OwnE w base ev l) (hb : base' ≤ base) : OwnE w base' ev l := by
  obtain ⟨A, c, rfl, hc, ho⟩ := h
  exact ⟨A, c, rfl, hc, ownsRow_base ho hb⟩
theorem OwnV.nil (w : World) (base : Nat) : OwnV w base (.slice none 0 0) [] := ⟨none, 0, rfl, Nat.le_refl _, World.ownsRow_nil _ _ _ _⟩
theorem OwnE.nil (w : World) (base : Nat) : OwnE w base (.slice none 0 0) [] := ⟨none, 0, rfl, Nat.le_refl _, World.ownsRow_nil _ _ _ _⟩

/-- A record's slices lie in memory. -/
structure RecAt (w : World) (r : Rl.Rec) (rv ev : Value) : Prop where
  rows : OwnV w 0 rv r.rows
  ents : OwnE w 0 ev r.entries
theorem RecAt.fr {F : List Nat} {w w1 : World} {r : Rl.Rec} {rv ev : Value} (h : RecAt w r rv ev) (hw : Fr F w w1) (h1 : FreeOf w F 50) (h2 : FreeOf w F 132) : RecAt w1 r rv ev := ⟨hw.ownV h.rows h1, hw.ownE h.ents h2⟩
theorem RecAt.keep {w w1 : World} {r : Rl.Rec} {rv ev : Value} (h : RecAt w r rv ev) (hw : Below w.heap.size w w1) : RecAt w1 r rv ev := ⟨h.rows.keep hw, h.ents.keep hw⟩
/-- A record's texts and lists may be read. -/
structure RecOk (r : Rl.Rec) : Prop where
  low : r.low.size ≤ maxLen
  high : r.high.size ≤ maxLen
  key : r.key.size ≤ maxLen
  value : r.value.size ≤ maxLen
  hold : r.hold.key.size ≤ maxLen
  rows : RowsOk r.rows
  ents : r.entries.length ≤ 1099511627776
structure SlotV where
  s : Rl.Slot
  rv : Value
  ev : Value
def slotCells (x : SlotV) : List Value := .int .i64 x.s.gen :: .bool x.s.used :: (recVal x.s.r x.rv x.ev).toList
theorem slotCells_length (x : SlotV) : (slotCells x).length = 17 := rfl
def pgCells (p : Rl.Pg) : List Value := [.bool p.used, .int .i64 p.head.slot, .int .i64 p.head.gen]
theorem pgCells_length (x : Rl.Pg) : (pgCells x).length = 3 := rfl
def slot0 : SlotV := ⟨{}, .slice none 0 0, .slice none 0 0⟩

/-- The arena: its slots. -/
structure ArenaAt (w : World) (ba bs : Nat) (S : List SlotV) (last : Int) : Prop where
  a : Blk w ba 111 #[.slice (some ⟨bs, 0, none⟩) S.length S.length, .int .i64 last]
  s : Blk w bs 120 (S.flatMap slotCells).toArray
  recs : ∀ x ∈ S, RecAt w x.s.r x.rv x.ev
/-- The table: its pages. -/
structure TableAt (w : World) (bt bp : Nat) (T : List Rl.Pg) : Prop where
  t : Blk w bt 114 #[.slice (some ⟨bp, 0, none⟩) T.length T.length]
  p : Blk w bp 123 (T.flatMap pgCells).toArray
/-- The clock: its number, and who is inside. -/
structure ClockAt (w : World) (bc bi : Nat) (now last threads : Int) (k : Nat) (D : DataW Unit) : Prop where
  c : Blk w bc 117 #[.int .i64 now, .int .i64 last, .int .i64 threads, .map (some bi)]
  m : w.ownsMap Tryz.prog 3 (plainElem Tryz.prog 3) bi k D
section
variable {F : List Nat} {w w1 : World}
theorem freeOf_own {t : TypeId} {ba bs : Nat} {S : List SlotV} {last : Int} (h : ArenaAt w ba bs S last) (h1 : t ≠ 111) (h2 : t ≠ 120) : FreeOf w [ba, bs] t := by
  intro g hg cs fr e
  simp at hg
  rcases hg with rfl | rfl
  · have := h.a; unfold Blk at this; rw [e] at this; injection this with this; injection this with _ h3; exact h1 h3
  · have := h.s; unfold Blk at this; rw [e] at this; injection this with this; injection this with _ h3; exact h2 h3
theorem ArenaAt.fr {ba bs : Nat} {S : List SlotV} {last : Int} (h : ArenaAt w ba bs S last) (hw : Fr F w w1) (ha : ba ∉ F) (hs : bs ∉ F) (h1 : FreeOf w F 50) (h2 : FreeOf w F 132) : ArenaAt w1 ba bs S last :=
  ⟨hw.blk h.a ha, hw.blk h.s hs, fun x hx => (h.recs x hx).fr hw h1 h2⟩
theorem TableAt.fr {bt bp : Nat} {T : List Rl.Pg} (h : TableAt w bt bp T) (hw : Fr F w w1) (ht : bt ∉ F) (hp : bp ∉ F) : TableAt w1 bt bp T := ⟨hw.blk h.t ht, hw.blk h.p hp⟩
theorem ownsMap_fr {P : Program} {k : TypeId} {R : Value → Option (DataW Unit × List MemPlace)} {b n : Nat} {D : DataW Unit} (h : w.ownsMap P k R b n D) (hw : Fr F w w1) (hb : b ∉ F) : w1.ownsMap P k R b n D := by
  obtain ⟨es, clock, hh, rest⟩ := h
  exact ⟨es, clock, hw.heap hh hb, rest⟩
theorem ClockAt.fr {bc bi : Nat} {now last threads : Int} {k : Nat} {D : DataW Unit} (h : ClockAt w bc bi now last threads k D) (hw : Fr F w w1) (hc : bc ∉ F) (hi : bi ∉ F) : ClockAt w1 bc bi now last threads k D :=
  ⟨hw.blk h.c hc, ownsMap_fr h.m hw hi⟩
end
end Go.Proofs.YthidclcliflhkaaGreat
end
section
open Go Go.RowKit
namespace Go.Proofs.YthidclcliflhkaaGreat

def wset (g : Nat) : List (Nat × Value) → World → World
  | [], w => w
  | (o, v) :: l, w => wset g l (w.setCell ⟨g, o, none⟩ v)
def asets : List (Nat × Value) → Array Value → Array Value
  | [], cs => cs
  | (o, v) :: l, cs => asets l (cs.setIfInBounds o v)
theorem Blk.sets {g : Nat} {t : TypeId} : ∀ (L : List (Nat × Value)) {w : World} {cs : Array Value}, Blk w g t cs → Blk (wset g L w) g t (asets L cs)
  | [], _, _, h => h
  | (o, v) :: L, _, _, h => Blk.sets L (h.set_ o v)
theorem Fr.sets' {F : List Nat} {g : Nat} : ∀ (L : List (Nat × Value)) {w w1 : World}, Fr F w w1 → (g ∈ F ∨ w.heap.size ≤ g) → Fr F w (wset g L w1)
  | [], _, _, h, _ => h
  | (o, v) :: L, _, _, h, hg => Fr.sets' L (h.setCell (p := ⟨g, o, none⟩) hg v) hg
theorem Fr.sets (g : Nat) (L : List (Nat × Value)) (w : World) : Fr [g] w (wset g L w) := Fr.sets' L (Fr.refl _ _) (.inl (by simp))
theorem bp_name {P : Program} {fn : Func} {R : Ending → World → Prop} {e : Exit} {a : Act} (X : World) {w : World} (he : X = w) (h : ∀ V, Hid (X = V) → bodyPost P fn R e a V) : bodyPost P fn R e a w := by
  subst he; exact h X (Lib.hid rfl)
theorem wpc_name {P : Program} {c : Code} {Q : Exit → Act → World → Prop} {a : Act} (X : World) {w : World} (he : X = w) (h : ∀ V, Hid (X = V) → c.wp P Q a V) : c.wp P Q a w := by
  subst he; exact h X (Lib.hid rfl)
theorem wpl_name {P : Program} {ops : Array Oper} {l : List Oper} {Q : Exit → Act → World → Prop} {a : Act} (X : World) {w : World} (he : X = w) (h : ∀ V, Hid (X = V) → wpList P ops Q l a V) : wpList P ops Q l a w := by
  subst he; exact h X (Lib.hid rfl)
end Go.Proofs.YthidclcliflhkaaGreat
end
section
open Go Go.RowKit
namespace Go.Proofs.YthidclcliflhkaaGreat

theorem wpList_load_arr {P : Program} {ops : Array Oper} {rest : List Oper} {op : Oper} {a : Act} {w : World} {Q : Exit → Act → World → Prop} (hgd : op.guard = none) (ty : TypeId) (x : Operand) (ho : op.op = .load ty x)
    (b o : Nat) (hx : a.eval x = .pointer (some ⟨b, o, none⟩)) (cs : Array Value) (d : TypeDesc) (hc : w.rangeAt b o cs.toList)
    (hu : P.underlying ty = some d) (hd : d.isRow = true) (hi : (P.info? ty).map (·.size) = some cs.size)
    (h : wpList P ops Q rest (a.put op.dst (.agg cs)) w) : wpList P ops Q (op :: rest) a w :=
  wpList_load_mid hgd ty x ho b o hx cs.toList d hc hu hd (by simpa using hi) (by simpa using h)
theorem wpList_load_arr_g {P : Program} {ops : Array Oper} {rest : List Oper} {op : Oper} {a : Act} {w : World} {Q : Exit → Act → World → Prop} (hw : Region.wanted op (yielded ops a.tmps) = true) (ty : TypeId) (x : Operand) (ho : op.op = .load ty x)
    (b o : Nat) (hx : a.eval x = .pointer (some ⟨b, o, none⟩)) (cs : Array Value) (d : TypeDesc) (hc : w.rangeAt b o cs.toList)
    (hu : P.underlying ty = some d) (hd : d.isRow = true) (hi : (P.info? ty).map (·.size) = some cs.size)
    (h : wpList P ops Q rest (a.put op.dst (.agg cs)) w) : wpList P ops Q (op :: rest) a w := by
  unfold wpList
  rw [if_pos hw]
  exact .inl (wp_load_mid ty x ho b o hx cs.toList d hc hu hd (by simpa using hi) (by simpa using h))
theorem results_cell_tmp {P : Program} {fn : Func} {tmps : Array Value} {a r b : Nat} {t T : TypeId} {cs : Array Value} {v : Value} {d : TypeDesc} {w : World} (hf : fn.results = #[.cell a t, .tmp r]) (ha : tmps.getD a undef = .pointer (some ⟨b, 0, none⟩)) (hb : Blk w b T cs)
    (hu : P.underlying t = some d) (hd : d.isRow = true) (hi : (P.info? t).map (·.size) = some cs.size) (hr : tmps.getD r undef = v) : (results fn tmps).run P w = .ok (.tuple #[.agg cs, v]) w := by
  have h := run_loadVar_mid (P := P) w b 0 t cs.toList d (hb.range 0 _ (fun j v hj => by rw [Nat.zero_add, ← Array.getElem?_toList]; exact hj)) hu hd (by simpa using hi)
  rw [Array.toArray_toList] at h
  simp only [Array.getD_eq_getD_getElem?] at ha hr
  simp [results, hf, ha, hr, asAddr, h]
theorem results_tmp_cell {P : Program} {fn : Func} {tmps : Array Value} {a r b : Nat} {t T : TypeId} {cs : Array Value} {v : Value} {d : TypeDesc} {w : World} (hf : fn.results = #[.tmp r, .cell a t]) (ha : tmps.getD a undef = .pointer (some ⟨b, 0, none⟩)) (hb : Blk w b T cs)
    (hu : P.underlying t = some d) (hd : d.isRow = true) (hi : (P.info? t).map (·.size) = some cs.size) (hr : tmps.getD r undef = v) : (results fn tmps).run P w = .ok (.tuple #[v, .agg cs]) w := by
  have h := run_loadVar_mid (P := P) w b 0 t cs.toList d (hb.range 0 _ (fun j v hj => by rw [Nat.zero_add, ← Array.getElem?_toList]; exact hj)) hu hd (by simpa using hi)
  rw [Array.toArray_toList] at h
  simp only [Array.getD_eq_getD_getElem?] at ha hr
  simp [results, hf, ha, hr, asAddr, h]
theorem results_cell {P : Program} {fn : Func} {tmps : Array Value} {a b : Nat} {t T : TypeId} {cs : Array Value} {d : TypeDesc} {w : World} (hf : fn.results = #[.cell a t]) (ha : tmps.getD a undef = .pointer (some ⟨b, 0, none⟩)) (hb : Blk w b T cs)
    (hu : P.underlying t = some d) (hd : d.isRow = true) (hi : (P.info? t).map (·.size) = some cs.size) : (results fn tmps).run P w = .ok (.agg cs) w := by
  have h := run_loadVar_mid (P := P) w b 0 t cs.toList d (hb.range 0 _ (fun j v hj => by rw [Nat.zero_add, ← Array.getElem?_toList]; exact hj)) hu hd (by simpa using hi)
  rw [Array.toArray_toList] at h
  simp only [Array.getD_eq_getD_getElem?] at ha
  simp [results, hf, ha, asAddr, h]
theorem quiet_load_arr {P : Program} {ops : Array Oper} {o : Oper} {a : Act} {C : World → Prop} {K : Act → Prop} (hw : Region.wanted o (yielded ops a.tmps) = true) (ty : TypeId) (x : Operand) (ho : o.op = .load ty x)
    (b off : Nat) (hx : a.eval x = .pointer (some ⟨b, off, none⟩)) (cs : Array Value) (d : TypeDesc) (hC : ∀ w, C w → w.rangeAt b off cs.toList)
    (hu : P.underlying ty = some d) (hd : d.isRow = true) (hi : (P.info? ty).map (·.size) = some cs.size) (h : K (a.put o.dst (.agg cs))) :
    if Region.wanted o (yielded ops a.tmps) then o.quiet P a C K else K (a.put o.dst undef) := by
  rw [if_pos hw]
  refine ⟨.agg cs, fun w hw' => ?_, h⟩
  have hl := run_loadVar_mid (P := P) w b off ty cs.toList d (hC w hw') hu hd (by simpa using hi)
  rw [Array.toArray_toList] at hl
  unfold Oper.quietAt execOp
  simp only [ho, hx, Instr.loadAt, Instr.sureAddr, Sem.run_bind, Sem.run_pure, Result.andThen_ok, hl]
  exact ⟨rfl, rfl⟩
theorem Blk.rangeArr {w : World} {g : Nat} {t : TypeId} {cs : Array Value} (h : Blk w g t cs) : w.rangeAt g 0 cs.toList := h.range 0 _ (fun j v hj => by rw [Nat.zero_add, ← Array.getElem?_toList]; exact hj)
end Go.Proofs.YthidclcliflhkaaGreat
end
section
open Go Go.RowKit
namespace Go.Proofs.YthidclcliflhkaaGreat

theorem ent_info : (Tryz.prog.info? 132).map (fun i => (i.zero, i.size, i.bytes)) = some (some (.agg #[.string ByteArray.empty, .int .i64 0]), 2, 24) := by kernel_rfl
theorem own_lit_at {X : World} {base b : Nat} {e : TypeId} {size : Nat} (cs : Array Value) (n : Nat) (hx : b = X.heap.size) (hb : base ≤ X.heap.size) (hm : n ≤ maxLen) (hs : cs.size = n * size) :
    (X.alloc (.cells cs e)).ownsRow base e size (.slice (some ⟨b, 0, none⟩) n n) n cs.toList := by subst hx; exact World.ownsRow_lit X cs n hb hm hs
theorem wpList_append_lit {P : Program} {ops : Array Oper} {rest : List Oper} {o : Oper} {a : Act} {Q : Exit → Act → World → Prop} (hgd : o.guard = none) (s x : Operand) (t : TypeId)
    (ho : o.op = .call { callee := .builtin .append, args := #[s, x], argTypes := #[t, t] })
    (e : TypeId) (i : TypeInfo) (z : Value) (size bytes : Nat) (ht : P.underlying t = some (.slice e)) (hi : P.info? e = some i) (hz : i.zero = some z)
    (hsize : i.size = size) (hby : i.bytes = bytes) (hzs : z.cells.size = size) (hsz : 0 < size) (X : World) (b : Nat) (hb : b = X.heap.size)
    (hs : a.eval s = .slice (some ⟨b, 0, none⟩) 0 0) (B : Nat) (A : Option Addr) (m c : Nat) (news : List Value) (hx : a.eval x = .slice A m c) (hr : Reads X B size A m news) (hB : B ≤ X.heap.size) (h1 : ∀ u ∈ news, u.oneCell' = true)
    (h63 : m ≤ maxLen) (hbytes : m * bytes ≤ 140737488355328)
    (h : ∀ A1 c1 w1, m ≤ c1 → w1.ownsRow X.heap.size e size (.slice A1 m c1) m news → Below X.heap.size X w1 → X.heap.size < w1.heap.size → wpList P ops Q rest (a.put o.dst (.slice A1 m c1)) w1) :
    wpList P ops Q (o :: rest) a (X.alloc (.cells #[] e)) := by
  refine wpList_append_any _ hgd s x t ho X.heap.size e i z size bytes ht hi hz hsize hby hzs hsz _ 0 [] hs (own_lit_at #[] 0 hb (Nat.le_refl _) (by simp [maxLen]) (by simp)) B A m c news hx (hr.alloc hB _) h1 (by omega) (by simpa using hbytes) (by simp) ?_
  intro v' w' h2 h3 _
  obtain ⟨A1, c1, rfl, hc⟩ := own_form h2
  rw [Nat.zero_add] at h2 hc ⊢
  have hsz := h3.size
  exact h A1 c1 w' hc h2 (Below.grown ((Below.refl _ _).alloc (Nat.le_refl _) _) h3 (by simp) (by simp [Value.ownBlock, hb])) (by simp at hsz; omega)

set_option maxRecDepth 100000 in
set_option maxHeartbeats 1000000 in
theorem clone_any (r : Rl.Rec) (rv ev : Value) (w : World) (hr : RecAt w r rv ev) (hok : RecOk r) :
    Calls Tryz.prog 46 #[.agg (recVal r rv ev)] w fun e w' => ∃ rv' ev', e = .returned (.agg (recVal r rv' ev')) ∧ OwnV w' w.heap.size rv' r.rows ∧ OwnE w' w.heap.size ev' r.entries ∧ Below w.heap.size w w' := by
  obtain ⟨i0, hi0, hz0, hz1, hz2⟩ := info_parts row_info
  obtain ⟨i1, hi1, hy0, hy1, hy2⟩ := info_parts ent_info
  obtain ⟨A, c, rfl, hc, hA⟩ := hr.rows
  obtain ⟨B, d, rfl, hd, hB⟩ := hr.ents
  have hRA : Reads w w.heap.size 2 A r.rows.length (rowCells r.rows) := Reads.of_own hA
  have hRB : Reads w w.heap.size 2 B r.entries.length (entCells r.entries) := Reads.of_own hB
  have hl1 := hok.rows.1
  have hl2 := hok.ents
  clear hA hB hr
  unfold recVal
  go_enter Tryz.func46, Tryz.ntmps46
  go_wp2_with (first
               | (at_builtin
                  refine wpList_append_lit rfl (.tmp 3) (.tmp 5) _ rfl 50 i0 _ 2 32 Tryz.underlying46 hi0 hz0 hz1 hz2 rfl ?_ _ _ ?_ rfl w.heap.size A _ c (rowCells r.rows) rfl ?_ ?_ (rowCells_one _) ?_ ?_ ?_
                  · decide
                  · simp
                  · exact hRA.below (by repeat' (first | (with_reducible exact Below.refl _ _) | (with_reducible assumption) | (with_reducible refine Below.alloc ?_ ?_ _) | (with_reducible refine below_drewN ?_ _) | (with_reducible refine Below.drew ?_) | (with_reducible refine Below.setCell ?_ ?_ _) | go_size))
                  · simp; omega
                  · simp only [maxLen]; omega
                  · omega
                  intro A1 c1 w1 hle1 hown1 hb1 hs1
                  have hB1 := Lib.hid (Blk.below (Blk.alloc (Blk.new_at rfl) _) hb1 (by first | (simp; done) | (simp; omega) | omega))
                  have hZ1 := Lib.hid (Blk.below (Blk.new_at (b := w.heap.size + 1) (by first | (simp; done) | (simp; omega) | omega)) hb1 (by first | (simp; done) | (simp; omega) | omega))
                  have hc1 := fun i => hB1.out.cell i
                  have hf1 := fun i => hB1.out.frozen i
                  have hbw : Below w.heap.size w w1 := below_to (by repeat' (first | (with_reducible exact Below.refl _ _) | (with_reducible assumption) | (with_reducible refine Below.alloc ?_ ?_ _) | (with_reducible refine below_drewN ?_ _) | (with_reducible refine Below.drew ?_) | (with_reducible refine Below.setCell ?_ ?_ _) | go_size)) hb1
                  have hzz : w.heap.size + 1 + 1 < w1.heap.size := by simp at hs1; omega
                  have hs0 : w.heap.size < w1.heap.size := by omega
                  have hs1' : w.heap.size + 1 < w1.heap.size := by omega
                  have HO1 := Lib.hid hown1
                  clear hb1 hown1 hs1)
               | (at_builtin
                  refine wpList_append_lit rfl (.tmp 8) (.tmp 10) _ rfl 132 i1 _ 2 24 Tryz.underlying56 hi1 hy0 hy1 hy2 rfl ?_ _ _ ?_ rfl w.heap.size B _ d (entCells r.entries) rfl ?_ ?_ (entCells_one _) ?_ ?_ ?_
                  · decide
                  · simp
                  · exact hRB.below (by repeat' (first | (with_reducible exact Below.refl _ _) | (with_reducible assumption) | (with_reducible refine Below.alloc ?_ ?_ _) | (with_reducible refine below_drewN ?_ _) | (with_reducible refine Below.drew ?_) | (with_reducible refine Below.setCell ?_ ?_ _) | go_size))
                  · simp; omega
                  · simp only [maxLen]; omega
                  · omega
                  intro A2 c2 w2 hle2 hown2 hb2 hs2
                  have hB2 := Lib.hid (Blk.below (hB1.out.set_ 5 _) hb2 (by first | (simp; done) | (simp; omega) | omega))
                  have hZ2 := Lib.hid (Blk.below (hZ1.out.far (p := ⟨w.heap.size, 5, none⟩) (by simp) _) hb2 (by first | (simp; done) | (simp; omega) | omega))
                  simp only [List.setIfInBounds_toArray, List.set_cons_succ, List.set_cons_zero] at hB2
                  have hc2 := fun i => hB2.out.cell i
                  have hf2 := fun i => hB2.out.frozen i
                  have hg2 := fun i => hZ2.out.cell i
                  have hh2 := fun i => hZ2.out.frozen i
                  have hbx : Below w.heap.size w w2 := (Below.setCell hbw (p := ⟨w.heap.size, 5, none⟩) (Nat.le_refl _) _).trans (hb2.mono (by first | (simp; done) | (simp; omega) | omega))
                  have hzz : w1.heap.size < w2.heap.size := by simp at hs2; omega
                  have hs0 : w.heap.size < w2.heap.size := by omega
                  have hs1' : w.heap.size + 1 < w2.heap.size := by omega
                  have HO2 := Lib.hid hown2
                  have HK := Lib.hid hb2
                  clear hb2 hown2 hs2 hbw))
  have hY := Blk.setCs (g := w.heap.size + 1) (recVal r (.slice A1 r.rows.length c1) (.slice A2 r.entries.length c2)).toList _ 0 _ (hZ2.out.far (p := ⟨w.heap.size, 6, none⟩) (by simp) (.slice A2 r.entries.length c2))
  simp only [recVal, World.setCells, setN, List.set_cons_zero, List.set_cons_succ, Nat.zero_add, Nat.reduceAdd] at hY
  have hcc := fun i => Blk.cell hY i
  refine bodyPost_ret (v := .agg (recVal r (.slice A1 r.rows.length c1) (.slice A2 r.entries.length c2))) ?_ rfl ⟨.slice A1 r.rows.length c1, .slice A2 r.entries.length c2, rfl, ?_, ?_, ?_⟩
  · simp [results, Tryz.results46, go_sem, hcc, recVal]
  · refine ⟨A1, c1, rfl, hle1, ?_⟩
    have h1 := ownsRow_set HO1.out (p := ⟨w.heap.size, 5, none⟩) (by first | (simp; done) | (simp; omega) | omega) (.slice A1 r.rows.length c1)
    have h2 := ownsRow_set (ownsRow_keep h1 HK.out) (p := ⟨w.heap.size, 6, none⟩) (by first | (simp; done) | (simp; omega) | omega) (.slice A2 r.entries.length c2)
    exact ownsRow_base (ownsRow_setCs (g := w.heap.size + 1) (recVal r (.slice A1 r.rows.length c1) (.slice A2 r.entries.length c2)).toList _ 0 h2 (by first | (simp; done) | (simp; omega) | omega)) (by first | (simp; done) | (simp; omega) | omega)
  · refine ⟨A2, c2, rfl, hle2, ?_⟩
    have h2 := ownsRow_set HO2.out (p := ⟨w.heap.size, 6, none⟩) (by first | (simp; done) | (simp; omega) | omega) (.slice A2 r.entries.length c2)
    exact ownsRow_base (ownsRow_setCs (g := w.heap.size + 1) (recVal r (.slice A1 r.rows.length c1) (.slice A2 r.entries.length c2)).toList _ 0 h2 (by first | (simp; done) | (simp; omega) | omega)) (by first | (simp; done) | (simp; omega) | omega)
  · exact below_setCs (g := w.heap.size + 1) (recVal r (.slice A1 r.rows.length c1) (.slice A2 r.entries.length c2)).toList _ 0 (Below.setCell hbx (p := ⟨w.heap.size, 6, none⟩) (Nat.le_refl _) _) (by omega)
end Go.Proofs.YthidclcliflhkaaGreat
end
section
namespace Go.Proofs.YthidclcliflhkaaGreat
open Go

section
variable {P : Program} {ops : Array Oper} {md : Region.Mode} {Q : Exit → Act → World → Prop} {S : World → Prop} {n : Nat}

def wpAnyHL (P : Program) (md : Region.Mode) (ops : Array Oper) (Q : Exit → Act → World → Prop) (S : World → Prop) (n : Nat) (L : Array Bool → Act → World → Prop) : Nat → Array Bool → Act → World → Prop
  | 0, listed, a, w => L listed a w
  | f + 1, listed, a, w => Region.ready md ops listed ≠ [] ∧ ∀ i ∈ Region.ready md ops listed, i < n ∧ wpOp P ops Q i (fun a' w' => S w' ∧ wpAnyHL P md ops Q S n L f (listed.setIfInBounds i true) a' w') a w
variable {L : Array Bool → Act → World → Prop}
theorem wpAny_of_headH {g : Nat} (hL : ∀ listed a w, L listed a w → wpAny P md ops Q g listed a w) :
    ∀ (f : Nat) (listed : Array Bool) (a : Act) (w : World), wpAnyHL P md ops Q S n L f listed a w → wpAny P md ops Q (f + g) listed a w
  | 0, listed, a, w, h => by rw [Nat.zero_add]; exact hL _ _ _ h
  | f + 1, listed, a, w, h => by
    rw [show f + 1 + g = (f + g) + 1 by omega]
    exact ⟨fun h0 => absurd h0 h.1, fun i hi => wpOp_mono (fun a' w' h' => wpAny_of_headH hL f _ a' w' h'.2) (h.2 i hi).2⟩
theorem wpAnyHL_first {i : Nat} {oi : Oper} {v : Value} (hi : ops[i]? = some oi) (hsel : ∀ (j : Nat) (o : Oper) cs b, ops[j]? = some o → o.op ≠ .select cs b)
    (hs : Region.sinkB md ops n = true) (hc : Region.chainB md ops n = true) (hn : n < ops.size) (hin : i < n)
    (hdone : ∀ listed a w, L listed a w → ∀ j ∈ Region.ready md ops listed, n ≤ j)
    (hQ : ∀ c a w, Q (.panic c) (a.put oi.dst v) w → Q (.panic c) a w) :
    ∀ (f : Nat) (listed : Array Bool) (a : Act) (w : World), HeadInv md ops n listed →
      (∀ j oj, ops[j]? = some oj → j ≠ i → listed.getD j true = false → (∀ e ∈ oj.after, Region.binds md e = true → e.on ≠ i) → oi.apart ops oj = true) →
      i ∈ Region.ready md ops listed → YieldsIf P ops S oi v a → S w →
      wpAnyHL P md ops Q S n L f (listed.setIfInBounds i true) (a.put oi.dst v) w → wpAnyHL P md ops Q S n L (f + 1) listed a w := by
  intro f
  induction f with
  | zero =>
    intro listed a w inv _ hr hy hS H
    have hun := (mem_ready.1 hr).1
    refine ⟨fun h => (by rw [h] at hr; cases hr), fun j hj => ?_⟩
    have hjn : j < n := by
      rcases Nat.lt_or_ge j n with h | h
      · exact h
      · exact absurd hj (tail_waits hs hc hn inv _ i rfl hin hun j h)
    refine ⟨hjn, ?_⟩
    by_cases hji : j = i
    · subst hji; exact hy.wpOp hi hS ⟨hS, H⟩
    · have := hdone _ _ _ H j (ready_mono hj hji)
      omega
  | succ f ih =>
    intro listed a w inv hfree hr hy hS H
    have hun := (mem_ready.1 hr).1
    refine ⟨fun h => (by rw [h] at hr; cases hr), fun j hj => ?_⟩
    have hjn : j < n := by
      rcases Nat.lt_or_ge j n with h | h
      · exact h
      · exact absurd hj (tail_waits hs hc hn inv _ i rfl hin hun j h)
    refine ⟨hjn, ?_⟩
    by_cases hji : j = i
    · subst hji; exact hy.wpOp hi hS ⟨hS, H⟩
    · have h1 := (H.2 j (ready_mono hj hji)).2
      obtain ⟨hjun, oj, hoj, hall⟩ := mem_ready.1 hj
      have hnot : ∀ e ∈ oj.after, Region.binds md e = true → e.on ≠ i := fun e he hb heq => by
        have h1 := hall e he hb
        rw [heq, getD_both hun] at h1
        cases h1
      have h2 := wpOp_putIf hoj (hfree j oj hoj hji hjun hnot) (fun cs b => hsel i oi cs b hi) (fun cs b => hsel j oj cs b hoj) hQ hy h1
      have hfree' : ∀ k ok, ops[k]? = some ok → k ≠ i → (listed.setIfInBounds j true).getD k true = false →
          (∀ e ∈ ok.after, Region.binds md e = true → e.on ≠ i) → oi.apart ops ok = true := fun k ok hk hki hun hno => by
        refine hfree k ok hk hki ?_ hno
        by_cases hjk : j = k
        · subst hjk; exact hjun
        · rw [getD_set_ne true hjk] at hun; exact hun
      refine wpOp_mono (fun a' w' h3 => ⟨h3.2.1, ih (listed.setIfInBounds j true) a' w' (inv.set hj hjn) hfree' (ready_mono hr (Ne.symm hji)) h3.1 h3.2.1 ?_⟩) h2
      rw [Array.setIfInBounds_comm _ _ hji]
      exact h3.2.2
end

section
variable {P : Program} {l : List Oper} {Q : Exit → Act → World → Prop} {S : World → Prop} {n : Nat}
def headB (ops : Array Oper) (n : Nat) : Bool := Region.noSelect ops && decide (n < ops.size) && Region.sinkB .any ops n && Region.chainB .any ops n
/-- A head's walk: as many operations to come, those that came up, the state, the world; behind it the tail. -/
def HW (P : Program) (l : List Oper) (Q : Exit → Act → World → Prop) (S : World → Prop) (n f : Nat) (listed : Array Bool) (a : Act) (w : World) : Prop :=
  headB l.toArray n = true → HeadInv .any l.toArray n listed →
    wpAnyHL P .any l.toArray Q S n (fun listed' a' w' => Region.seqB .any l.toArray (l.length - n) n listed' = true ∧ wpList P l.toArray Q (l.drop n) a' w') f listed a w
theorem HW.take {i : Nat} {oi : Oper} {v : Value} {f : Nat} {listed : Array Bool} {a : Act} {w : World} (hi : l[i]? = some oi)
    (hB : (decide (i < n) && (Region.ready .any l.toArray listed).contains i && Region.free .any l.toArray listed i) = true)
    (hQ : ∀ c a w, Q (.panic c) (a.put oi.dst v) w → Q (.panic c) a w) (hS : S w) (hy : YieldsIf P l.toArray S oi v a)
    (h : HW P l Q S n f (listed.setIfInBounds i true) (a.put oi.dst v) w) : HW P l Q S n (f + 1) listed a w := by
  intro hb inv
  have hb' := hb
  simp only [headB, Bool.and_eq_true, decide_eq_true_eq] at hb
  obtain ⟨⟨⟨hsel, hn⟩, hs⟩, hc⟩ := hb
  simp only [Bool.and_eq_true, decide_eq_true_eq] at hB
  obtain ⟨⟨hin, hr⟩, hf⟩ := hB
  have hi' : l.toArray[i]? = some oi := by simpa using hi
  have hr' : i ∈ Region.ready .any l.toArray listed := by simpa using hr
  exact wpAnyHL_first hi' (Region.noSelect_spec hsel) hs hc hn hin (fun _ _ _ hL => seqB_ready hL.1) hQ f listed a w inv (Region.free_spec hi' hf) hr' hy hS (h hb' (inv.set hr' hin))
/-- One operation taken, what follows behind a variable. -/
theorem HW.q {i : Nat} {oi : Oper} {f : Nat} {listed : Array Bool} {a : Act} {w : World} (hi : l[i]? = some oi)
    (hB : (decide (i < n) && (Region.ready .any l.toArray listed).contains i && Region.free .any l.toArray listed i) = true)
    (hQ : ∀ v c a w, Q (.panic c) (a.put oi.dst v) w → Q (.panic c) a w) (hS : S w)
    (h : ∀ K : Act → Prop, (∀ a', HW P l Q S n f (listed.setIfInBounds i true) a' w → K a') →
      if Region.wanted oi (yielded l.toArray a.tmps) then ∃ v, (∀ w', S w' → (execOp a.eval oi).run P w' = .ok (.value v) w') ∧ K (a.put oi.dst v) else K (a.put oi.dst undef)) : HW P l Q S n (f + 1) listed a w := by
  have h1 := h _ (fun _ h => h)
  by_cases hw : Region.wanted oi (yielded l.toArray a.tmps) = true
  · rw [if_pos hw] at h1
    obtain ⟨v, hy, h2⟩ := h1
    exact HW.take hi hB (hQ v) hS (.inl ⟨hw, hy⟩) h2
  · rw [if_neg hw] at h1
    exact HW.take hi hB (hQ undef) hS (.inr ⟨by simpa using hw, rfl⟩) h1
/-- The one operation that may come up. -/
theorem HW.solo {i : Nat} {oi : Oper} {f : Nat} {listed : Array Bool} {a : Act} {w : World} (hi : l[i]? = some oi) (hr : (decide (i < n) && decide (Region.ready .any l.toArray listed = [i])) = true)
    (hw : Region.wanted oi (yielded l.toArray a.tmps) = true)
    (h : ∀ K : Act → World → Prop, (∀ a' w', S w' → HW P l Q S n f (listed.setIfInBounds i true) a' w' → K a' w') → oi.wp P a w K Q) : HW P l Q S n (f + 1) listed a w := by
  intro hb inv
  simp only [Bool.and_eq_true, decide_eq_true_eq] at hr
  obtain ⟨hin, hr⟩ := hr
  refine ⟨by rw [hr]; simp, fun j hj => ?_⟩
  rw [hr] at hj
  have hji : j = i := by simpa using hj
  subst hji
  have hi' : l.toArray[j]? = some oi := by simpa using hi
  refine ⟨hin, ?_⟩
  unfold wpOp
  simp only [hi', hw, if_true]
  exact .inl (h _ fun a' w' hS hh => ⟨hS, hh hb (inv.set (by rw [hr]; simp) hin)⟩)
/-- The two operations that may come up. -/
theorem HW.two {i j : Nat} {oi oj : Oper} {f : Nat} {listed : Array Bool} {a : Act} {w : World} (hi : l[i]? = some oi) (hj : l[j]? = some oj) (hr : (decide (i < n) && decide (j < n) && decide (Region.ready .any l.toArray listed = [i, j])) = true)
    (hwi : Region.wanted oi (yielded l.toArray a.tmps) = true) (hwj : Region.wanted oj (yielded l.toArray a.tmps) = true)
    (h1 : ∀ K : Act → World → Prop, (∀ a' w', S w' → HW P l Q S n f (listed.setIfInBounds i true) a' w' → K a' w') → oi.wp P a w K Q)
    (h2 : ∀ K : Act → World → Prop, (∀ a' w', S w' → HW P l Q S n f (listed.setIfInBounds j true) a' w' → K a' w') → oj.wp P a w K Q) : HW P l Q S n (f + 1) listed a w := by
  intro hb inv
  simp only [Bool.and_eq_true, decide_eq_true_eq] at hr
  obtain ⟨⟨hin, hjn⟩, hr⟩ := hr
  refine ⟨by rw [hr]; simp, fun m hm => ?_⟩
  have hm' := hm
  rw [hr] at hm
  have hi' : l.toArray[i]? = some oi := by simpa using hi
  have hj' : l.toArray[j]? = some oj := by simpa using hj
  rcases List.mem_cons.1 hm with rfl | hm
  · refine ⟨hin, ?_⟩
    unfold wpOp
    simp only [hi', hwi, if_true]
    exact .inl (h1 _ fun a' w' hS hh => ⟨hS, hh hb (inv.set hm' hin)⟩)
  · have hm2 : m = j := by simpa using hm
    subst hm2
    refine ⟨hjn, ?_⟩
    unfold wpOp
    simp only [hj', hwj, if_true]
    exact .inl (h2 _ fun a' w' hS hh => ⟨hS, hh hb (inv.set hm' hjn)⟩)
theorem HW.done {listed : Array Bool} {a : Act} {w : World} (hB : Region.seqB .any l.toArray (l.length - n) n listed = true) (h : wpList P l.toArray Q (l.drop n) a w) : HW P l Q S n 0 listed a w :=
  fun _ _ => ⟨hB, h⟩
/-- The beginning. -/
theorem wp_region_head {id : Nat} {a : Act} {w : World} (n : Nat) (S : World → Prop) (hm : P.follows .mixedOrders = true) (hB : headB l.toArray n = true)
    (h : HW P l Q S n n (Array.replicate l.toArray.size false) a w.drew) : (Code.region id l.toArray true).wp P Q a w := by
  have hB' := hB
  simp only [headB, Bool.and_eq_true, decide_eq_true_eq] at hB
  obtain ⟨⟨⟨_, hn⟩, _⟩, _⟩ := hB
  have hn' : n < l.length := by simpa using hn
  have inv0 : HeadInv .any l.toArray n (Array.replicate l.toArray.size false) :=
    ⟨by simp, fun j oj _ hl => (by rw [getD_replicate_false] at hl; cases hl), fun t _ ht => getD_in (by simpa using ht) (getD_replicate_false _ _)⟩
  have H := h hB' inv0
  refine wp_region_any hm ?_
  have hdl : (l.drop n).length = l.length - n := by simp
  have := wpAny_of_headH (Q := Q) (g := l.length - n) (fun listed a' w' hL => by
    have := wpAny_of_seq (md := .any) (Q' := Q) (l.drop n) n listed a' w' (fun j => by simp [List.getElem?_drop]) (by rw [hdl]; exact hL.1) hL.2
    rwa [hdl] at this) _ _ _ _ H
  rw [show n + (l.length - n) = l.toArray.size by simp; omega] at this
  exact this
end
end Go.Proofs.YthidclcliflhkaaGreat
end
