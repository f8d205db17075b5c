/- Words for memory: a slice that reads as a list, a block that is known whole, appends (after the guide's pages of words to copy), and small lemmas. Words for the contracts: posts, blocks, what is read of memory. What bkey's functions compute: contracts. -/
import Derived.Test.YthidclcliflhkaaGreatZ00
import Derived.Test.YthidclcliflhkaaGreatProg
import Derived.Below
import Derived.BigQuiet
import Derived.BigRegion
import Derived.ChangeSame
import Derived.Deep.AppendLies
import Derived.Deep.Draws
import Derived.Deep.OwnRows
import Derived.Deep.QuietTactic
import Derived.Deep.RegionHeld3
import Derived.Handy
import Derived.LaidEqlPtr
import Derived.Laws.AppendOwn
import Derived.Laws.Entries
import Derived.Laws.EntriesVeiled
import Derived.Laws.MakeOwn
import Derived.Laws.OwnMore
import Derived.Laws.Rows
import Derived.Lib.Hide
import Derived.Maps.AppendAt
import Derived.Outline
import Derived.OwnWalk
import Derived.RegionTactic
import Derived.Tactics
import Derived.WalkKit
import Derived.WalkLawsBesides
import Derived.WalkSpells
section
namespace Go.Proofs.YthidclcliflhkaaGreat
open Go Go.RowKit

theorem block_of_add (a : Addr) (n : Nat) : (a.add n).block = a.block := by unfold Addr.add; split <;> rfl
theorem add_of_add (a : Addr) (i j : Nat) : (a.add i).add j = a.add (i + j) := by
  unfold Addr.add
  by_cases hi : i = 0 <;> by_cases hj : j = 0 <;> simp [hi, hj, Nat.add_assoc]

def Reads (w : World) (B size : Nat) (A : Option Addr) (n : Nat) (xs : List Value) : Prop :=
  xs.length = n * size ∧ (0 < n → ∃ ad, A = some ad ∧ ad.block < B ∧ ∀ j u, xs[j]? = some u → w.cell? (ad.add j) = some u)

section
variable {w w' : World} {B B' size n : Nat} {A : Option Addr} {xs : List Value}
theorem Reads.none_ : Reads w B size A 0 [] := ⟨by simp, fun h => absurd h (by omega)⟩
theorem Reads.at_ {k : Nat} (h : Reads w B 1 A n xs) (hk : k < n) : ∃ ad u, A = some ad ∧ ad.block < B ∧ xs[k]? = some u ∧ w.cell? (ad.add k) = some u := by
  obtain ⟨ad, e, hb, hc⟩ := h.2 (by omega)
  have hl : k < xs.length := by have := h.1; omega
  exact ⟨ad, xs[k], e, hb, List.getElem?_eq_getElem hl, hc k _ (List.getElem?_eq_getElem hl)⟩
theorem Reads.keep (h : Reads w B size A n xs) (hk : ∀ p : Addr, p.block < B → w'.cell? p = w.cell? p) : Reads w' B size A n xs :=
  ⟨h.1, fun hn => by
    obtain ⟨ad, e, hb, hc⟩ := h.2 hn
    exact ⟨ad, e, hb, fun j u hu => (hk _ (by rw [block_of_add]; exact hb)).trans (hc j u hu)⟩⟩
theorem Reads.more (h : Reads w B size A n xs) (hB : B ≤ B') : Reads w B' size A n xs :=
  ⟨h.1, fun hn => by
    obtain ⟨ad, e, hb, hc⟩ := h.2 hn
    exact ⟨ad, e, by omega, hc⟩⟩
theorem Reads.below (h : Reads w B size A n xs) (hb : Below B w w') : Reads w' B size A n xs := h.keep fun _ hp => hb.cell hp
theorem Reads.drew (h : Reads w B size A n xs) : Reads w.drew B size A n xs := h
theorem Reads.drewN (h : Reads w B size A n xs) (k : Nat) : Reads (w.drewN k) B size A n xs := h
theorem Reads.alloc (h : Reads w B size A n xs) (hB : B ≤ w.heap.size) (o : Obj) : Reads (w.alloc o) B size A n xs := h.keep fun p hp => World.cell?_alloc_lt w o p (by omega)
theorem Reads.setCell (h : Reads w B size A n xs) {p : Addr} (hB : B ≤ p.block) (u : Value) : Reads (w.setCell p u) B size A n xs :=
  h.keep fun q hq => World.cell?_setCell_other w p q u (fun e => by subst e; omega)
theorem Reads.grown (h : Reads w B size A n xs) {row : Option Nat} (hg : w.grownBy w' row) (hB : B ≤ w.heap.size) (hr : ∀ g, row = some g → B ≤ g) : Reads w' B size A n xs :=
  h.keep fun p hp => World.cell?_of_block (hg.block p.block (by omega) (fun e => by have := hr _ e.symm; omega))
theorem Reads.cut (h : Reads w B size A n xs) {k cap : Nat} (hk : k ≤ n) (hc : n ≤ cap) :
    Reads w B size (if cap = k then A else A.map (·.add (k * size))) (n - k) (xs.drop (k * size)) := by
  refine ⟨by rw [List.length_drop, h.1, Nat.sub_mul], fun hn => ?_⟩
  obtain ⟨ad, rfl, hb, hcell⟩ := h.2 (by omega)
  rw [if_neg (by omega)]
  refine ⟨ad.add (k * size), rfl, by rw [block_of_add]; exact hb, fun j u hu => ?_⟩
  rw [add_of_add]
  exact hcell _ u (by rw [← hu, List.getElem?_drop])
theorem Reads.of_own {base : Nat} {e : TypeId} {c : Nat} (h : w.ownsRow base e size (.slice A n c) n xs) : Reads w w.heap.size size A n xs := by
  refine ⟨h.1, fun hn => ?_⟩
  obtain ⟨g, cap, hv, _, hlt⟩ := h.form hn
  have hA : A = some ⟨g, 0, none⟩ := by injection hv
  subst hA
  exact ⟨_, rfl, hlt, h.cells (g := g) rfl⟩
end

def Blk (w : World) (g : Nat) (t : TypeId) (cs : Array Value) : Prop := w.heap[g]? = some (.cells cs t (0, 0))

section
variable {w w' : World} {g : Nat} {t : TypeId} {cs : Array Value}
theorem Blk.lt (h : Blk w g t cs) : g < w.heap.size := by
  rcases Nat.lt_or_ge g w.heap.size with hlt | hge
  · exact hlt
  · unfold Blk at h; rw [Array.getElem?_eq_none hge] at h; cases h
theorem Blk.cell (h : Blk w g t cs) (i : Nat) : w.cell? ⟨g, i, none⟩ = cs[i]? := cell_of_row w g i cs t (0, 0) h
theorem Blk.frozen (h : Blk w g t cs) (i : Nat) : w.frozen? ⟨g, i, none⟩ = false := by
  unfold Blk at h
  simp [World.frozen?, h]
theorem Blk.new (w : World) (t : TypeId) (cs : Array Value) : Blk (w.alloc (.cells cs t)) w.heap.size t cs := heap_alloc_new w _
theorem Blk.drew (h : Blk w g t cs) : Blk w.drew g t cs := h
theorem Blk.drewN (h : Blk w g t cs) (n : Nat) : Blk (w.drewN n) g t cs := h
theorem Blk.alloc (h : Blk w g t cs) (o : Obj) : Blk (w.alloc o) g t cs := (Below.heap_alloc w o g h.lt).trans h
theorem Blk.set_ (h : Blk w g t cs) (i : Nat) (u : Value) : Blk (w.setCell ⟨g, i, none⟩ u) g t (cs.setIfInBounds i u) := by
  unfold Blk at h ⊢
  simp [World.setCell, Array.getElem?_modify, h]
theorem Blk.far (h : Blk w g t cs) {p : Addr} (hp : g ≠ p.block) (u : Value) : Blk (w.setCell p u) g t cs := (Below.heap_setCell w p u g hp).trans h
theorem Blk.below {B : Nat} (h : Blk w g t cs) (hb : Below B w w') (hg : g < B) : Blk w' g t cs := (hb.block g hg).trans h
theorem Blk.grown {row : Option Nat} (h : Blk w g t cs) (hb : w.grownBy w' row) (hg : some g ≠ row) : Blk w' g t cs := (hb.block g h.lt hg).trans h
theorem Blk.ne_ {g' : Nat} {t' : TypeId} {cs' : Array Value} (h : Blk w g t cs) (h' : Blk w g' t' cs') (hne : t ≠ t') : g ≠ g' := by
  rintro rfl
  unfold Blk at h h'
  rw [h] at h'
  injection h' with h'
  injection h' with _ ht
  exact hne ht
theorem own_blk_ne {base : Nat} {e : TypeId} {size n : Nat} {v : Value} {xs : List Value} (h : w.ownsRow base e size v n xs) (hg : Blk w g t cs) (hne : e ≠ t) : v.ownBlock ≠ some g := by
  rcases h.2 with ⟨rfl, _⟩ | ⟨g', cap, cur, rfl, _, hh, _⟩
  · simp [Value.ownBlock]
  · intro he
    have : g' = g := by simpa [Value.ownBlock] using he
    subst this
    exact Blk.ne_ (t := e) hh hg hne rfl
end

section
variable {P : Program} (w : World)

theorem run_append_of_nil (base : Nat) (t ty e : TypeId) (i : TypeInfo) (size : Nat) (ht : P.underlying t = some (.slice e)) (hi : P.info? e = some i)
    (v : Value) (n : Nat) (xs : List Value) (hown : w.ownsRow base e size v n xs) (c : Nat) : (Builtin.append_ #[t, t] ty #[v, .slice none 0 c]).run P w = .ok v w := by
  rcases hown.2 with ⟨rfl, rfl⟩ | ⟨g, cap, cur, rfl, _, _, hnc, _⟩
  · simp [Builtin.append_, run_underlying ht, sizeOf, typeInfo, hi, Builtin.lenOf, Builtin.firstCells]
  · simp [Builtin.append_, run_underlying ht, sizeOf, typeInfo, hi, Builtin.lenOf, Builtin.firstCells, hnc, storeCells]

theorem run_append_any (base : Nat) (t ty e : TypeId) (i : TypeInfo) (z : Value) (size bytes : Nat) (ht : P.underlying t = some (.slice e)) (hi : P.info? e = some i) (hz : i.zero = some z)
    (hsize : i.size = size) (hby : i.bytes = bytes) (hzs : z.cells.size = size) (hsz : 0 < size)
    (v : Value) (n : Nat) (xs : List Value) (hown : w.ownsRow base e size v n xs)
    (B : Nat) (A : Option Addr) (m c : Nat) (news : List Value) (hr : Reads w B size A m news) (h1 : ∀ u ∈ news, u.oneCell' = true)
    (h63 : n + m ≤ maxLen) (hbytes : (n + m) * bytes ≤ 140737488355328) (hbase : base ≤ w.heap.size) :
    ∃ v' w', (Builtin.append_ #[t, t] ty #[v, .slice A m c]).run P w = .ok v' w' ∧ w'.ownsRow base e size v' (n + m) (xs ++ news) ∧ w.grownBy w' v.ownBlock ∧
      (v'.ownBlock = v.ownBlock ∨ v'.ownBlock = some w.heap.size) := by
  rcases A with _ | ad
  · have hm : m = 0 := by
      rcases Nat.eq_zero_or_pos m with h0 | h0
      · exact h0
      · obtain ⟨ad, h, _⟩ := hr.2 h0
        cases h
    subst hm
    have hn : news = [] := List.eq_nil_of_length_eq_zero (by simpa using hr.1)
    subst hn
    exact ⟨v, w, run_append_of_nil w base t ty e i size ht hi v n xs hown c, by simpa using hown, World.grownBy.refl w _, .inl rfl⟩
  · have hcells : ∀ j u, news[j]? = some u → w.cell? (ad.add j) = some u := by
      intro j u hu
      rcases Nat.eq_zero_or_pos m with h0 | h0
      · subst h0
        have hn : news = [] := List.eq_nil_of_length_eq_zero (by simpa using hr.1)
        subst hn
        simp at hu
      · obtain ⟨ad', h, _, hc⟩ := hr.2 h0
        injection h with h
        subst h
        exact hc j u hu
    obtain ⟨v', w', hrun, h2, h3, _, h5⟩ := run_append_own_at (P := P) w base t ty e i z size bytes ht hi hz hsize hby hzs hsz v n xs hown ad m c news hr.1 hcells h1 h63 hbytes hbase
    exact ⟨v', w', hrun, h2, h3, h5⟩

theorem wp_append_any {o : Oper} {a : Act} {K : Act → World → Prop} {Q : Exit → Act → World → Prop} (s x : Operand) (t : TypeId)
    (ho : o.op = .call { callee := .builtin .append, args := #[s, x], argTypes := #[t, t] })
    (base : Nat) (e : TypeId) (i : TypeInfo) (z : Value) (size bytes : Nat) (ht : P.underlying t = some (.slice e)) (hi : P.info? e = some i) (hz : i.zero = some z)
    (hsize : i.size = size) (hby : i.bytes = bytes) (hzs : z.cells.size = size) (hsz : 0 < size)
    (v : Value) (n : Nat) (xs : List Value) (hs : a.eval s = v) (hown : w.ownsRow base e size v n xs)
    (B : Nat) (A : Option Addr) (m c : Nat) (news : List Value) (hx : a.eval x = .slice A m c) (hr : Reads w B size A m news) (h1 : ∀ u ∈ news, u.oneCell' = true)
    (h63 : n + m ≤ maxLen) (hbytes : (n + m) * bytes ≤ 140737488355328) (hbase : base ≤ w.heap.size)
    (h : ∀ v' w', w'.ownsRow base e size v' (n + m) (xs ++ news) → w.grownBy w' v.ownBlock → (v'.ownBlock = v.ownBlock ∨ v'.ownBlock = some w.heap.size) → K (a.put o.dst v') w') : o.wp P a w K Q := by
  obtain ⟨v', w', hrun, h2, h3, h4⟩ := run_append_any (P := P) w base t o.type e i z size bytes ht hi hz hsize hby hzs hsz v n xs hown B A m c news hr h1 h63 hbytes hbase
  unfold Oper.wp execOp
  simp only [ho, resolve, invoke, builtin, Sem.run_bind, Sem.run_pure, Result.andThen_ok, List.map_toArray, List.map_cons, List.map_nil, hs, hx, hrun]
  exact h v' w' h2 h3 h4

theorem wpList_append_any {ops : Array Oper} {rest : List Oper} {o : Oper} {a : Act} {Q : Exit → Act → World → Prop} (hgd : o.guard = none) (s x : Operand) (t : TypeId)
    (ho : o.op = .call { callee := .builtin .append, args := #[s, x], argTypes := #[t, t] })
    (base : Nat) (e : TypeId) (i : TypeInfo) (z : Value) (size bytes : Nat) (ht : P.underlying t = some (.slice e)) (hi : P.info? e = some i) (hz : i.zero = some z)
    (hsize : i.size = size) (hby : i.bytes = bytes) (hzs : z.cells.size = size) (hsz : 0 < size)
    (v : Value) (n : Nat) (xs : List Value) (hs : a.eval s = v) (hown : w.ownsRow base e size v n xs)
    (B : Nat) (A : Option Addr) (m c : Nat) (news : List Value) (hx : a.eval x = .slice A m c) (hr : Reads w B size A m news) (h1 : ∀ u ∈ news, u.oneCell' = true)
    (h63 : n + m ≤ maxLen) (hbytes : (n + m) * bytes ≤ 140737488355328) (hbase : base ≤ w.heap.size)
    (h : ∀ v' w', w'.ownsRow base e size v' (n + m) (xs ++ news) → w.grownBy w' v.ownBlock → (v'.ownBlock = v.ownBlock ∨ v'.ownBlock = some w.heap.size) → wpList P ops Q rest (a.put o.dst v') w') : wpList P ops Q (o :: rest) a w :=
  wpList_plain hgd fun _ hK => wp_append_any w s x t ho base e i z size bytes ht hi hz hsize hby hzs hsz v n xs hs hown B A m c news hx hr h1 h63 hbytes hbase fun v' w' h2 h3 h4 => hK _ _ (h v' w' h2 h3 h4)

theorem step_append_any {ops : Array Oper} {o : Oper} {a : Act} {K : Act → World → Prop} {Q : Exit → Act → World → Prop} {E : Prop} (hgd : o.guard = none) (s x : Operand) (t : TypeId)
    (ho : o.op = .call { callee := .builtin .append, args := #[s, x], argTypes := #[t, t] })
    (base : Nat) (e : TypeId) (i : TypeInfo) (z : Value) (size bytes : Nat) (ht : P.underlying t = some (.slice e)) (hi : P.info? e = some i) (hz : i.zero = some z)
    (hsize : i.size = size) (hby : i.bytes = bytes) (hzs : z.cells.size = size) (hsz : 0 < size)
    (v : Value) (n : Nat) (xs : List Value) (hs : a.eval s = v) (hown : w.ownsRow base e size v n xs)
    (B : Nat) (A : Option Addr) (m c : Nat) (news : List Value) (hx : a.eval x = .slice A m c) (hr : Reads w B size A m news) (h1 : ∀ u ∈ news, u.oneCell' = true)
    (h63 : n + m ≤ maxLen) (hbytes : (n + m) * bytes ≤ 140737488355328) (hbase : base ≤ w.heap.size)
    (h : ∀ v' w', w'.ownsRow base e size v' (n + m) (xs ++ news) → w.grownBy w' v.ownBlock → (v'.ownBlock = v.ownBlock ∨ v'.ownBlock = some w.heap.size) → K (a.put o.dst v') w') :
    if Region.wanted o (yielded ops a.tmps) = true then Oper.wp P o a w K Q else E := by
  have hw : Region.wanted o (yielded ops a.tmps) = true := by simp [Region.wanted, hgd]
  rw [if_pos hw]
  exact wp_append_any w s x t ho base e i z size bytes ht hi hz hsize hby hzs hsz v n xs hs hown B A m c news hx hr h1 h63 hbytes hbase h
end

theorem quiet_add {P : Program} {f : FuncId} {args : Array Value} {w : World} {a n : Nat} {v : Value}
    (h : Calls P f args (w.drewN (a + n)) fun e w' => e = .returned v ∧ ∃ m, w' = (w.drewN (a + n)).drewN m) :
    Calls P f args (w.drewN (a + n)) fun e w'' => e = .returned v ∧ ∃ m, w'' = w.drewN (a + m) :=
  h.mono fun _ _ ⟨he, m, hm⟩ => ⟨he, n + m, by rw [hm, World.drewN_drewN, Nat.add_assoc]⟩
theorem quiet_add_same {P : Program} {f : FuncId} {args : Array Value} {w : World} {a n : Nat} {v : Value}
    (h : Calls P f args (w.drewN (a + n)) fun e w' => e = .returned v ∧ w' = w.drewN (a + n)) :
    Calls P f args (w.drewN (a + n)) fun e w'' => e = .returned v ∧ ∃ m, w'' = w.drewN (a + m) :=
  h.mono fun _ _ ⟨he, hm⟩ => ⟨he, n, hm⟩
theorem quiet_add_left {P : Program} {f : FuncId} {args : Array Value} {w : World} {a n : Nat} {v : Value}
    (h : Calls P f args (w.drewN (a + n)) fun e w' => e = .returned v ∧ w.drewN (a + n) = w') :
    Calls P f args (w.drewN (a + n)) fun e w'' => e = .returned v ∧ ∃ m, w'' = w.drewN (a + m) :=
  h.mono fun _ _ ⟨he, hm⟩ => ⟨he, n, hm.symm⟩
theorem quiet_left {P : Program} {f : FuncId} {args : Array Value} {w : World} {n : Nat} {v : Value}
    (h : Calls P f args (w.drewN n) fun e w' => e = .returned v ∧ w.drewN n = w') : Calls P f args (w.drewN n) fun e w'' => e = .returned v ∧ ∃ m, w'' = w.drewN m :=
  h.mono fun _ _ ⟨he, hm⟩ => ⟨he, n, hm.symm⟩

theorem results_tmp4 {fn : Func} {t u v x : Tmp} (h : fn.results = #[.tmp t, .tmp u, .tmp v, .tmp x]) (tmps : Array Value) (P : Program) (w : World) :
    (results fn tmps).run P w = .ok (.tuple #[tmps.getD t undef, tmps.getD u undef, tmps.getD v undef, tmps.getD x undef]) w := by simp [results, h]
theorem results_tmp5 {fn : Func} {t u v x y : Tmp} (h : fn.results = #[.tmp t, .tmp u, .tmp v, .tmp x, .tmp y]) (tmps : Array Value) (P : Program) (w : World) :
    (results fn tmps).run P w = .ok (.tuple #[tmps.getD t undef, tmps.getD u undef, tmps.getD v undef, tmps.getD x undef, tmps.getD y undef]) w := by simp [results, h]

theorem below_drewN {B : Nat} {a w : World} (h : Below B a w) (n : Nat) : Below B a (w.drewN n) := ⟨h.os, h.tape, h.output, h.size, h.block⟩
theorem rowIs_drewN {w : World} {b : Nat} {t : TypeId} {n : Nat} {f : Nat → Value} (h : w.rowIs b t n f) (k : Nat) : (w.drewN k).rowIs b t n f := h
theorem grown_trans {a b c : World} (h : Grown a b) (k : Grown b c) : Grown a c :=
  ⟨World.keptBut_trans h.1 k.1, fun x => (k.2.1 x).trans (h.2.1 x), Nat.le_trans h.2.2 k.2.2⟩

theorem only_drewN {a w : World} {row : Option Nat} (h : a.grownBy w row) (n : Nat) : a.grownBy (w.drewN n) row := ⟨h.os, h.tape, h.output, h.size, h.block⟩
theorem only_drew {a w : World} {row : Option Nat} (h : a.grownBy w row) : a.grownBy w.drew row := ⟨h.os, h.tape, h.output, h.size, h.block⟩
theorem only_alloc {a w : World} {row : Option Nat} (h : a.grownBy w row) (o : Obj) : a.grownBy (w.alloc o) row :=
  ⟨h.os, h.tape, h.output, Nat.le_trans h.size (by simp), fun i hi hne => (Below.heap_alloc w o i (Nat.lt_of_lt_of_le hi h.size)).trans (h.block i hi hne)⟩
theorem only_setCell {a w : World} {g : Nat} (h : a.grownBy w (some g)) {p : Addr} (hp : p.block = g ∨ a.heap.size ≤ p.block) (u : Value) : a.grownBy (w.setCell p u) (some g) :=
  ⟨h.os, h.tape, h.output, by simpa [World.setCell] using h.size, fun i hi hne => (Below.heap_setCell w p u i (by
    rintro rfl
    rcases hp with hp | hp
    · exact hne (by rw [hp])
    · omega)).trans (h.block i hi hne)⟩
theorem only_of_below {a w : World} (h : Below a.heap.size a w) (row : Option Nat) : a.grownBy w row := ⟨h.os, h.tape, h.output, h.size, fun i hi _ => h.block i hi⟩

theorem run_make_rowN {P : Program} (t e : TypeId) (i : TypeInfo) (z : Value) (ht : P.underlying t = some (.slice e)) (hi : P.info? e = some i) (hz : i.zero = some z)
    (kl kc : IntKind) (n c : Nat) (hnc : n ≤ c) (hbytes : i.bytes * c ≤ 281474976710656) (h63 : c ≤ 9223372036854775807) (w : World) :
    (Instr.makeSlice t (.int kl (n : Int)) (.int kc (c : Int))).run P w = .ok (.slice (some ⟨w.heap.size, 0, none⟩) n c) (w.alloc (.cells (madeCells z.cells (c * i.size)) e)) := by
  have hb : (i.bytes : Int) * (c : Int) ≤ 281474976710656 := by
    have h : ((i.bytes * c : Nat) : Int) ≤ 281474976710656 := by omega
    rwa [Int.natCast_mul] at h
  have hr := run_make (P := P) w t e i z ht hi hz kl kc n c (by omega) (by omega) hb (by omega)
  simp only [Int.toNat_natCast] at hr
  exact hr
theorem run_makeMap_hint {P : Program} (t k e : TypeId) (kd : IntKind) (n : Int) (ht : P.underlying t = some (.map k e)) (w : World) :
    (Instr.makeMap t (some (.int kd n))).run P w = .ok (.map (some w.heap.size)) (w.alloc (.map #[] 0)) := by
  simp [Instr.makeMap, run_underlying ht]; rfl

theorem run_neq_ptr_other {P : Program} (w : World) {tp te : TypeId} {j : TypeInfo} {a b : Addr} {ca cb : Array Value} {ta tb : TypeId} (hp : P.underlying tp = some (.pointer te)) (hte : P.info? te = some j) (hsz : j.size ≠ 0)
    (hne : a ≠ b) (ha : w.heap[a.block]? = some (.cells ca ta (0, 0))) (hb : w.heap[b.block]? = some (.cells cb tb (0, 0))) :
    (binOp .neq tp (.pointer (some a)) (.pointer (some b))).run P w = .ok (.bool true) w := by
  have h : ∀ d : Nat, (Op.equalIn (d + 1) tp (.pointer (some a)) (.pointer (some b))).run P w = .ok false w := fun d => by
    simp [Op.equalIn, run_underlying hp, sizeOf, typeInfo, hte, hsz, run_sameAddr_other w hne ha hb]
  simp only [binOp]
  simp [Op.equal, Op.maxDepth, h 9999]

end Go.Proofs.YthidclcliflhkaaGreat
end
section
open Go Go.RowKit
namespace Go.Proofs.YthidclcliflhkaaGreat

/-- A call that only computes: its value; the world is as it was, but for draws. -/
def Ret (v : Value) (w : World) (e : Ending) (w' : World) : Prop := e = .returned v ∧ ∃ n, w' = w.drewN n
theorem Ret.mk (v : Value) (w : World) (n : Nat) : Ret v w (.returned v) (w.drewN n) := ⟨rfl, n, rfl⟩
theorem Ret.mk' {v v' : Value} {w w' : World} (h : v' = v) (n : Nat) (hw : w' = w.drewN n) : Ret v w (.returned v') w' := ⟨by rw [h], n, hw⟩
theorem Ret.mk0 {v v' : Value} {w : World} (h : v' = v) : Ret v w (.returned v') w := ⟨by rw [h], 0, rfl⟩
theorem Ret.mk2 {v v' : Value} {w : World} (h : v' = v) (m n : Nat) : Ret v w (.returned v') ((w.drewN m).drewN n) := ⟨by rw [h], m + n, by simp⟩

theorem toList_eq (a : ByteArray) : a.toList = a.data.toList := by
  have key : ∀ (n i : Nat) (r : List UInt8), a.size - i = n → i ≤ a.size → ByteArray.toList.loop a i r = r.reverse ++ a.data.toList.drop i := by
    intro n
    induction n with
    | zero =>
      intro i r h hi
      rw [ByteArray.toList.loop, if_neg (by omega), List.drop_eq_nil_of_le (by simp; omega)]; simp
    | succ n ih =>
      intro i r h hi
      have hlt : i < a.data.toList.length := by simp; omega
      rw [ByteArray.toList.loop, if_pos (by omega), ih (i + 1) _ (by omega) (by omega), List.drop_eq_getElem_cons hlt]
      simp [ByteArray.get!]
      rw [getElem!_pos a.data i (by simpa using hlt)]
  have := key a.size 0 [] (by omega) (by omega)
  simpa [ByteArray.toList] using this
theorem str_eq {a b : ByteArray} (h : a = b) : (a.toList == b.toList) = true := by subst h; simp
theorem str_ne {a b : ByteArray} (h : ¬ a = b) : (a.toList == b.toList) = false := by
  rw [beq_eq_false_iff_ne]; intro e; rw [toList_eq, toList_eq] at e; exact h (Rl.bs_ext e)

/-- The cells of rows. -/
def rowCells (l : List Rl.Row) : List Value := l.flatMap fun r => [.string r.key, .string r.value]
theorem rowCells_nil : rowCells [] = [] := rfl
theorem rowCells_cons (r : Rl.Row) (l : List Rl.Row) : rowCells (r :: l) = .string r.key :: .string r.value :: rowCells l := rfl
theorem rowCells_append (a b : List Rl.Row) : rowCells (a ++ b) = rowCells a ++ rowCells b := by simp [rowCells]
theorem rowCells_length : ∀ l : List Rl.Row, (rowCells l).length = l.length * 2
  | [] => rfl
  | r :: l => by rw [rowCells_cons]; simp only [List.length_cons]; rw [rowCells_length l]; omega
theorem rowCells_key : ∀ (l : List Rl.Row) (i : Nat) (h : i < l.length), (rowCells l)[i * 2]? = some (.string l[i].key)
  | [], i, h => by simp at h
  | r :: l, 0, h => rfl
  | r :: l, i + 1, h => by
    rw [rowCells_cons, show (i + 1) * 2 = i * 2 + 1 + 1 by omega, List.getElem?_cons_succ, List.getElem?_cons_succ, rowCells_key l i (by simpa using h)]; rfl
theorem rowCells_value : ∀ (l : List Rl.Row) (i : Nat) (h : i < l.length), (rowCells l)[i * 2 + 1]? = some (.string l[i].value)
  | [], i, h => by simp at h
  | r :: l, 0, h => rfl
  | r :: l, i + 1, h => by
    rw [rowCells_cons, show (i + 1) * 2 + 1 = i * 2 + 1 + 1 + 1 by omega, List.getElem?_cons_succ, List.getElem?_cons_succ, rowCells_value l i (by simpa using h)]; rfl
theorem rowCells_drop (l : List Rl.Row) (n : Nat) : rowCells (l.drop n) = (rowCells l).drop (n * 2) := by
  induction l generalizing n with
  | nil => simp [rowCells]
  | cons r l ih =>
    cases n with
    | zero => simp
    | succ n => rw [List.drop_succ_cons, ih, rowCells_cons, show (n + 1) * 2 = n * 2 + 1 + 1 by omega, List.drop_succ_cons, List.drop_succ_cons]
theorem rowCells_take (l : List Rl.Row) (n : Nat) : rowCells (l.take n) = (rowCells l).take (n * 2) := by
  induction l generalizing n with
  | nil => simp [rowCells]
  | cons r l ih =>
    cases n with
    | zero => simp [rowCells]
    | succ n => rw [List.take_succ_cons, rowCells_cons, ih, rowCells_cons, show (n + 1) * 2 = n * 2 + 1 + 1 by omega, List.take_succ_cons, List.take_succ_cons]
theorem rowCells_one (l : List Rl.Row) : ∀ u ∈ rowCells l, u.oneCell' = true := by
  intro u hu
  simp only [rowCells, List.mem_flatMap] at hu
  obtain ⟨r, _, hr⟩ := hu
  simp at hr
  rcases hr with rfl | rfl <;> rfl

/-- A slice that reads as rows. -/
def RowsR (w : World) (B : Nat) (A : Option Addr) (l : List Rl.Row) : Prop := Reads w B 2 A l.length (rowCells l)
/-- Rows of texts that may be read. -/
def RowsOk (l : List Rl.Row) : Prop := l.length ≤ 1099511627776 ∧ ∀ r ∈ l, r.key.size ≤ maxLen ∧ r.value.size ≤ maxLen
theorem RowsR.at_ {w : World} {B : Nat} {A : Option Addr} {l : List Rl.Row} (h : RowsR w B A l) {k : Nat} (hk : k < l.length) :
    ∃ ad : Addr, A = some ad ∧ ad.block < B ∧ w.cell? (ad.add (k * 2)) = some (.string l[k].key) ∧ w.cell? (ad.add (k * 2 + 1)) = some (.string l[k].value) := by
  obtain ⟨ad, e, hb, hc⟩ := h.2 (by omega)
  exact ⟨ad, e, hb, hc _ _ (rowCells_key l k hk), hc _ _ (rowCells_value l k hk)⟩
theorem own_form {w : World} {base : Nat} {e : TypeId} {size n : Nat} {v : Value} {xs : List Value} (h : w.ownsRow base e size v n xs) : ∃ A c, v = .slice A n c ∧ n ≤ c := by
  rcases h.2 with ⟨rfl, rfl⟩ | ⟨g, cap, cur, rfl, _, _, hn, _⟩
  · exact ⟨_, _, rfl, Nat.le_refl _⟩
  · exact ⟨_, _, rfl, hn⟩
/-- A result that is rows in new memory. -/
def OwnRows (w w' : World) (v : Value) (l : List Rl.Row) : Prop :=
  ∃ A c, v = .slice A l.length c ∧ w'.ownsRow w.heap.size 50 2 (.slice A l.length c) l.length (rowCells l) ∧ Below w.heap.size w w'
theorem ownsRow_base {w : World} {base base' : Nat} {e : TypeId} {size n : Nat} {v : Value} {xs : List Value} (h : w.ownsRow base e size v n xs) (hb : base' ≤ base) : w.ownsRow base' e size v n xs := by
  refine ⟨h.1, ?_⟩
  rcases h.2 with h0 | ⟨g, cap, cur, rfl, hg, rest⟩
  · exact .inl h0
  · exact .inr ⟨g, cap, cur, rfl, by omega, rest⟩
theorem below_to {w w1 w' : World} (h : Below w.heap.size w w1) (h' : Below w1.heap.size w1 w') : Below w.heap.size w w' := h.trans (h'.mono h.size)
theorem OwnRows.below {w w' : World} {v : Value} {l : List Rl.Row} (h : OwnRows w w' v l) : Below w.heap.size w w' := by
  obtain ⟨_, _, _, _, hb⟩ := h; exact hb
theorem ownsRow_keep {w w' : World} {base : Nat} {e : TypeId} {size n : Nat} {v : Value} {xs : List Value} (h : w.ownsRow base e size v n xs) (hb : Below w.heap.size w w') : w'.ownsRow base e size v n xs :=
  h.kept (only_of_below hb none) (by cases hv : v.ownBlock <;> simp)
theorem OwnRows.keep {w w1 w' : World} {v : Value} {l : List Rl.Row} (h : OwnRows w w1 v l) (hb : Below w1.heap.size w1 w') : OwnRows w w' v l := by
  obtain ⟨A, c, rfl, ho, hb'⟩ := h
  exact ⟨A, c, rfl, ownsRow_keep ho hb, below_to hb' hb⟩
theorem alloc_drewN (w : World) (k : Nat) (o : Obj) : (w.drewN k).alloc o = (w.alloc o).drewN k := rfl
theorem alloc_drew (w : World) (o : Obj) : w.drew.alloc o = (w.alloc o).drew := rfl
/-- A region that draws its order, whose operations and callees make new memory at most, and hand back plain values: one walk, in the order of the text. -/
theorem wp_region_new {P : Program} {id : Nat} {Q : Exit → Act → World → Prop} {a : Act} {w : World} {l : List Oper} (hm : P.follows .mixedOrders = true) (hB : Region.lexB .any l.toArray = true)
    (h : wpQuiet P l.toArray (fun w' => Below w.heap.size w w') (fun a' => ∀ w', Below w.heap.size w w' → Q .normal a' w') l a) : (Code.region id l.toArray true).wp P Q a w :=
  wp_region_quiet (C := fun w' => Below w.heap.size w w') hm hB (Below.drew (Below.refl _ _)) (by simpa using h)
theorem kept_cell {w w' : World} {p : Addr} {v : Value} (h : Below w.heap.size w w') (hc : w.cell? p = some v) : w'.cell? p = some v :=
  (h.cell (World.block_lt_of_cell? w p hc)).trans hc
theorem OwnRows.later {w w1 w' : World} {v : Value} {l : List Rl.Row} (h : OwnRows w1 w' v l) (hb : Below w.heap.size w w1) : OwnRows w w' v l := by
  obtain ⟨A, c, rfl, ho, hb'⟩ := h
  exact ⟨A, c, rfl, ownsRow_base ho hb.size, below_to hb hb'⟩
theorem OwnRows.reads {w w' : World} {A : Option Addr} {c : Nat} {l : List Rl.Row} (h : w'.ownsRow w.heap.size 50 2 (.slice A l.length c) l.length (rowCells l)) : RowsR w' w'.heap.size A l := Reads.of_own h
theorem RowsOk.take {l : List Rl.Row} (h : RowsOk l) (n : Nat) : RowsOk (l.take n) :=
  ⟨by rw [List.length_take]; have := h.1; omega, fun r hr => h.2 r (List.mem_of_mem_take hr)⟩
theorem RowsOk.drop {l : List Rl.Row} (h : RowsOk l) (n : Nat) : RowsOk (l.drop n) :=
  ⟨by rw [List.length_drop]; have := h.1; omega, fun r hr => h.2 r (List.mem_of_mem_drop hr)⟩
theorem RowsR.take {w : World} {B : Nat} {A : Option Addr} {l : List Rl.Row} (h : RowsR w B A l) (n : Nat) : RowsR w B A (l.take n) := by
  refine ⟨rowCells_length _, fun hn => ?_⟩
  rw [List.length_take] at hn
  obtain ⟨ad, e, hb, hc⟩ := h.2 (by omega)
  refine ⟨ad, e, hb, fun j u hu => hc j u ?_⟩
  rw [rowCells_take, List.getElem?_take] at hu
  split at hu
  · exact hu
  · cases hu
theorem RowsR.drop {w : World} {B : Nat} {A : Option Addr} {l : List Rl.Row} {c : Nat} (h : RowsR w B A l) (n : Nat) (hn : n ≤ l.length) (hc : l.length ≤ c) :
    RowsR w B (if c = n then A else A.map (·.add (n * 2))) (l.drop n) := by
  have := Reads.cut h hn hc
  rw [← rowCells_drop] at this
  show Reads _ _ _ _ _ _
  rw [List.length_drop]; exact this
theorem RowsOk.key {l : List Rl.Row} (h : RowsOk l) {k : Nat} (hk : k < l.length) : l[k].key.size ≤ maxLen := (h.2 _ (List.getElem_mem hk)).1

theorem bcell {W w1 : World} (hb : Below W.heap.size W w1) : (∀ b o, b < W.heap.size → w1.cell? ⟨b, o, none⟩ = W.cell? ⟨b, o, none⟩) ∧ (∀ b o, b < W.heap.size → w1.frozen? ⟨b, o, none⟩ = W.frozen? ⟨b, o, none⟩) :=
  ⟨fun b o h => hb.cell (p := ⟨b, o, none⟩) h, fun b o h => hb.frozen (p := ⟨b, o, none⟩) h⟩
/-- A call that makes new memory at most: its value. -/
def RetB (v : Value) (w : World) (e : Ending) (w' : World) : Prop := e = .returned v ∧ Below w.heap.size w w'
/-- A leaf's view, as a value; its rows' slice apart. -/
def leafVal (v : Rl.LeafView) (rv : Value) : Array Value := #[.string v.low, .string v.high, .bool v.unb, .int .i64 v.right, rv, .bool v.gone]
/-- The texts of a view may be read. -/
structure LeafOk (v : Rl.LeafView) : Prop where
  low : v.low.size ≤ maxLen
  high : v.high.size ≤ maxLen
  rows : RowsOk v.rows
/-- The cells of a record; its slices apart. -/
def recVal (r : Rl.Rec) (rv ev : Value) : Array Value :=
  #[.int .i64 r.kind, .string r.low, .string r.high, .bool r.unb, .int .i64 r.right, rv, ev, .string r.key, .string r.value, .int .i64 r.page,
    .int .i64 r.hold.page, .int .i64 r.hold.left, .string r.hold.key, .int .i64 r.next.slot, .int .i64 r.next.gen]

/-- Rows that the call owns from a block on. -/
def OwnV (w : World) (base : Nat) (rv : Value) (l : List Rl.Row) : Prop := ∃ A c, rv = .slice A l.length c ∧ l.length ≤ c ∧ w.ownsRow base 50 2 (.slice A l.length c) l.length (rowCells l)
theorem OwnRows.ownV {w w' : World} {v : Value} {l : List Rl.Row} {base : Nat} (h : OwnRows w w' v l) (hb : base ≤ w.heap.size) : OwnV w' base v l := by
  obtain ⟨A, c, rfl, ho, _⟩ := h
  obtain ⟨_, _, e, hc⟩ := own_form ho
  injection e with e1 e2 e3
  subst e3
  exact ⟨A, _, rfl, hc, ownsRow_base ho hb⟩
theorem OwnV.keep {w w' : World} {base : Nat} {rv : Value} {l : List Rl.Row} (h : OwnV w base rv l) (hb : Below w.heap.size w w') : OwnV w' base rv l := by
  obtain ⟨A, c, rfl, hc, ho⟩ := h
  exact ⟨A, c, rfl, hc, ownsRow_keep ho hb⟩
theorem OwnV.reads {w : World} {base : Nat} {A : Option Addr} {c : Nat} {l : List Rl.Row} (h : w.ownsRow base 50 2 (.slice A l.length c) l.length (rowCells l)) : RowsR w w.heap.size A l := Reads.of_own h
/-- What 'up' leaves. -/
def UpPost (v : Rl.LeafView) (base : Nat) (w : World) (e : Ending) (w' : World) : Prop :=
  ∃ rv, e = .returned (.tuple #[.agg (leafVal v rv), .bool true]) ∧ OwnV w' base rv v.rows ∧ Below w.heap.size w w'
end Go.Proofs.YthidclcliflhkaaGreat
end
section
open Go Go.RowKit
namespace Go.Proofs.YthidclcliflhkaaGreat
open Rl (lt cmp common keyOk inSpan)

theorem getElem_data (a : ByteArray) (k : Nat) (h : k < a.size) : a.data.toList[k]? = some a[k] := by
  rw [List.getElem?_eq_getElem (by simpa using h)]; rfl
theorem common_here (a b : ByteArray) (k : Nat) (h1 : k ≤ a.size) (h2 : k ≤ b.size) (h3 : ∀ j, j < k → a.data.toList[j]? = b.data.toList[j]?)
    (h4 : k = a.size ∨ k = b.size ∨ a.data.toList[k]? ≠ b.data.toList[k]?) : common a b = k :=
  Rl.commonL_eq _ _ k (by simpa using h1) (by simpa using h2) h3 (by simpa using h4)

set_option maxHeartbeats 400000 in
theorem common_any (a b : ByteArray) (w : World) (ha : a.size ≤ maxLen) (hb : b.size ≤ maxLen) :
   Calls Tryz.prog 92 #[.string a, .string b] w (Ret (.int .i64 (common a b : Nat)) w) := by
  unfold maxLen at ha hb
  by_cases hab : a.size ≤ b.size
  all_goals
    go_enter Tryz.func92, Tryz.ntmps92
    go_wp2
    go_loopw [5, 11] (fun n i wr => ∃ k : Nat, k ≤ a.size ∧ k ≤ b.size ∧ n = .int .i64 k ∧ i = .int .i64 k ∧ Hid (∀ j, j < k → a.data.toList[j]? = b.data.toList[j]?) ∧ ∃ m, wr = w.drewN m) (fun _ i _ => a.size - (intOf i).toNat)
    case atStart => exact ⟨0, Nat.zero_le _, Nat.zero_le _, rfl, rfl, Lib.hid (fun j h => absurd h (by omega)), 0, rfl⟩
    case round =>
      obtain ⟨k, hk, hk2, rfl, rfl, HP, m, rfl⟩ := hrel
      by_cases h1 : k < a.size
      · by_cases h2 : k < b.size
        · have h1' : (k:Int) < (a.size : Int) := by omega
          have h2' : (k:Int) < (b.size : Int) := by omega
          by_cases he : a[k] = b[k]
          · have HE : Hid (∀ j, j < k + 1 → a.data.toList[j]? = b.data.toList[j]?) := Lib.hid (fun j hj => by
              by_cases e : j = k
              · subst e; rw [getElem_data a j h1, getElem_data b j h2, he]
              · exact HP.out j (by omega))
            go_wp2
            go_quiet (fail)
            go_wp2
            exact ⟨⟨k + 1, by omega, by omega, by go_num, by go_num, HE, _, rfl⟩, by simp [intOf]; omega⟩
          · have HC : Hid (common a b = k) := Lib.hid (common_here a b k hk hk2 HP.out (.inr (.inr (by rw [getElem_data a k h1, getElem_data b k h2]; simpa using he))))
            have hn : ((a[k].toNat : Int) == (b[k].toNat : Int)) = false := by
              rw [beq_eq_false_iff_ne]; intro h; exact he (UInt8.toNat_inj.1 (by omega))
            have hn' : ((a[k].toNat : Int) != (b[k].toNat : Int)) = true := by simp [bne, hn]
            clear he
            go_wp2
            go_quiet (fail)
            go_wp2
            go_ret
            exact Ret.mk2 (congrArg (fun n : Nat => Value.int .i64 n) HC.out.symm) _ _
        · have HC : Hid (common a b = k) := Lib.hid (common_here a b k hk hk2 HP.out (.inr (.inl (by omega))))
          first
          | (exfalso; omega)
          | (go_wp2
             go_ret
             exact Ret.mk' (congrArg (fun n : Nat => Value.int .i64 n) HC.out.symm) _ rfl)
      · have HC : Hid (common a b = k) := Lib.hid (common_here a b k hk hk2 HP.out (.inl (by omega)))
        first
        | (exfalso; omega)
        | (go_wp2
           go_ret
           exact Ret.mk' (congrArg (fun n : Nat => Value.int .i64 n) HC.out.symm) _ rfl)
        | (by_cases hz : k < b.size
           all_goals
             go_wp2
             go_ret
             exact Ret.mk' (congrArg (fun n : Nat => Value.int .i64 n) HC.out.symm) _ rfl)

theorem compare_any (a b : ByteArray) (w : World) (ha : a.size ≤ maxLen) (hb : b.size ≤ maxLen) :
   Calls Tryz.prog 72 #[.string a, .string b] w (Ret (.int .i64 (cmp a b)) w) := by
  have hc := Rl.common_le a b
  have HL := Lib.hid (Rl.lt_of_common a b)
  have HR := Lib.hid (Rl.lt_of_common b a)
  have HN := Lib.hid (@Rl.common_ne a b)
  rw [Rl.common_comm b a] at HR
  go_enter Tryz.func72, Tryz.ntmps72
  go_wp2_with fail
  refine (common_any a b _ ha hb).mono ?_
  rintro e w' ⟨rfl, n, rfl⟩
  obtain ⟨c, HC⟩ : ∃ c, Hid (common a b = c) := ⟨_, Lib.hid rfl⟩
  have hc' : c ≤ a.size ∧ c ≤ b.size := by rw [← HC.out]; exact hc
  obtain ⟨hc1, hc2⟩ := hc'
  rw [HC.out] at HL HR HN ⊢
  clear hc
  unfold maxLen at ha hb
  by_cases h1 : c < a.size
  · by_cases h2 : c < b.size
    · have h1' : (c:Int) < (a.size : Int) := by omega
      have h2' : (c:Int) < (b.size : Int) := by omega
      by_cases h3 : a[c] < b[c]
      · have h3' : (a[c].toNat : Int) < (b[c].toNat : Int) := by have : a[c].toNat < b[c].toNat := h3; omega
        have HX : Hid (cmp a b = -1) := Lib.hid (by
          have e : lt a b = true := by rw [HL.out, if_neg (by omega), if_neg (by omega), Rl.getD_data a c h1, Rl.getD_data b c h2]; simp [h3]
          simp [cmp, e])
        clear h3
        go_wp2
        go_quiet (fail)
        go_wp2
        go_ret
        exact Ret.mk2 (congrArg (Value.int .i64) HX.out.symm) _ _
      · have h3' : ¬ (a[c].toNat : Int) < (b[c].toNat : Int) := by intro h; exact h3 (by show a[c].toNat < b[c].toNat; omega)
        have HX : Hid (cmp a b = 1) := Lib.hid (by
          have hne := HN.out h1 h2
          rw [Rl.getD_data a c h1, Rl.getD_data b c h2] at hne
          have h4 : b[c] < a[c] := by rcases Rl.u8_tri a[c] b[c] with e | e | e; exact absurd e h3; exact absurd e hne; exact e
          have e : lt a b = false := by rw [HL.out, if_neg (by omega), if_neg (by omega), Rl.getD_data a c h1, Rl.getD_data b c h2]; simp [h3]
          have e' : lt b a = true := by rw [HR.out, if_neg (by omega), if_neg (by omega), Rl.getD_data a c h1, Rl.getD_data b c h2]; simp [h4]
          simp [cmp, e, e'])
        clear h3
        go_wp2
        go_quiet (fail)
        go_wp2
        go_ret
        exact Ret.mk2 (congrArg (Value.int .i64) HX.out.symm) _ _
    · have HX : Hid (cmp a b = 1) := Lib.hid (by
        have e : lt a b = false := by rw [HL.out, if_pos (by omega)]
        have e' : lt b a = true := by rw [HR.out, if_neg (by omega), if_pos (by omega)]
        simp [cmp, e, e'])
      go_wp2
      go_ret
      exact Ret.mk' (congrArg (Value.int .i64) HX.out.symm) _ rfl
  · by_cases h2 : c < b.size
    · have HX : Hid (cmp a b = -1) := Lib.hid (by
        have e : lt a b = true := by rw [HL.out, if_neg (by omega), if_pos (by omega)]
        simp [cmp, e])
      go_wp2
      go_ret
      exact Ret.mk' (congrArg (Value.int .i64) HX.out.symm) _ rfl
    · have HX : Hid (cmp a b = 0) := Lib.hid (by
        have e : lt a b = false := by rw [HL.out, if_pos (by omega)]
        have e' : lt b a = false := by rw [HR.out, if_pos (by omega)]
        simp [cmp, e, e'])
      go_wp2
      go_ret
      exact Ret.mk' (congrArg (Value.int .i64) HX.out.symm) _ rfl
theorem right_any (k : ByteArray) (w : World) (hk : k.size ≤ maxLen) : Calls Tryz.prog 21 #[.string k] w (Ret (.bool (keyOk k)) w) := by
  unfold maxLen at hk
  by_cases h1 : 1 ≤ k.size
  · by_cases h2 : k.size ≤ 16
    · have HX : Hid (keyOk k = true) := Lib.hid (by simp [keyOk, h1, h2])
      go_enter Tryz.func21, Tryz.ntmps21
      go_wp2
      go_ret
      exact Ret.mk0 (congrArg Value.bool (by rw [HX.out]; simp; omega))
    · have HX : Hid (keyOk k = false) := Lib.hid (by simp [keyOk, h2])
      have h3 : decide (k.size ≤ 16) = false := by simpa using h2
      go_enter Tryz.func21, Tryz.ntmps21
      go_wp2
      go_ret
      exact Ret.mk0 (congrArg Value.bool (by rw [HX.out]; simp; omega))
  · have HX : Hid (keyOk k = false) := Lib.hid (by simp [keyOk, h1])
    have h3 : decide (1 ≤ k.size) = false := by simpa using h1
    go_enter Tryz.func21, Tryz.ntmps21
    go_wp2
    go_ret
    exact Ret.mk0 (congrArg Value.bool HX.out.symm)

theorem in_any (low high key : ByteArray) (unb : Bool) (w : World) (hlo : low.size ≤ maxLen) (hhi : high.size ≤ maxLen) (hk : key.size ≤ maxLen) :
    Calls Tryz.prog 90 #[.string low, .string high, .bool unb, .string key] w (Ret (.bool (inSpan low high unb key)) w) := by
  go_enter Tryz.func90, Tryz.ntmps90
  go_wp2_with fail
  refine (compare_any _ _ _ hlo hk).mono ?_
  rintro e w' ⟨rfl, n, rfl⟩
  by_cases h1 : cmp low key ≤ 0
  · have h1' : lt key low = false := by
      cases e : lt key low with
      | false => rfl
      | true => have := Rl.cmp_gt.2 e; omega
    have h1' := Lib.hid h1'
    cases unb with
    | true =>
      go_wp2
      go_ret
      exact Ret.mk' (by simp [inSpan, h1'.out]) _ rfl
    | false =>
      go_wp2_with fail
      refine (compare_any _ _ _ hk hhi).mono ?_
      rintro e w' ⟨rfl, m, rfl⟩
      by_cases h2 : cmp key high < 0
      · have h2' := Lib.hid (Rl.cmp_lt.1 h2)
        go_wp2
        go_ret
        exact Ret.mk' (congrArg Value.bool (by simp [inSpan, h1'.out, h2'.out] <;> omega)) _ rfl
      · have h2' : lt key high = false := by
          cases e : lt key high with
          | false => rfl
          | true => exact absurd (Rl.cmp_lt.2 e) h2
        have h2' := Lib.hid h2'
        go_wp2
        go_ret
        exact Ret.mk' (congrArg Value.bool (by simp [inSpan, h1'.out, h2'.out] <;> omega)) _ rfl
  · have h1' : lt key low = true := Rl.cmp_gt.1 (by omega)
    have h1' := Lib.hid h1'
    have h3 : decide (cmp low key ≤ 0) = false := by simpa using h1
    go_wp2
    go_ret
    exact Ret.mk' (by simp [inSpan, h1'.out]) _ rfl
end Go.Proofs.YthidclcliflhkaaGreat
end
