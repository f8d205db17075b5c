/- The plain model of the given program, in plain Lean: keys, rows, leaves, inner pages, plans, the memory. Plain facts on the order of keys. Plain facts on rows and entries: places, what is put, dropped, cut. -/
section
namespace Go.Proofs.YthidclcliflhkaaGreat.Rl

abbrev Str := ByteArray

def ltL : List UInt8 → List UInt8 → Bool
  | _, [] => false
  | [], _ :: _ => true
  | a :: as, b :: bs => if a < b then true else if b < a then false else ltL as bs
def lt (a b : Str) : Bool := ltL a.data.toList b.data.toList
/-- bkey.Right -/
def keyOk (k : Str) : Bool := decide (1 ≤ k.size) && decide (k.size ≤ 16)
def commonL : List UInt8 → List UInt8 → Nat
  | a :: as, b :: bs => if a = b then commonL as bs + 1 else 0
  | _, _ => 0
def common (a b : Str) : Nat := commonL a.data.toList b.data.toList
def cmp (a b : Str) : Int := if lt a b then -1 else if lt b a then 1 else 0
/-- bkey.In -/
def inSpan (low high : Str) (unb : Bool) (key : Str) : Bool := !lt key low && (unb || lt key high)

structure Ref where
  slot : Int
  gen : Int
  deriving DecidableEq, Inhabited, Repr
def Ref.zero : Ref := ⟨0, 0⟩
structure Row where
  key : Str
  value : Str
  deriving DecidableEq, Inhabited
structure Entry where
  key : Str
  page : Int
  deriving DecidableEq, Inhabited
structure Hold where
  page : Int
  left : Int
  key : Str
  deriving DecidableEq, Inhabited
structure Rec where
  kind : Int := 0
  low : Str := .empty
  high : Str := .empty
  unb : Bool := false
  right : Int := 0
  rows : List Row := []
  entries : List Entry := []
  key : Str := .empty
  value : Str := .empty
  page : Int := 0
  hold : Hold := ⟨0, 0, .empty⟩
  next : Ref := ⟨0, 0⟩
  deriving DecidableEq, Inhabited
end Go.Proofs.YthidclcliflhkaaGreat.Rl
namespace Go.Proofs.YthidclcliflhkaaGreat.Rl
/-! rows -/
def Row.fits (r : Row) : Bool := keyOk r.key && decide (r.value.size ≤ 16)
def rowsRight : List Row → Bool
  | [] => true
  | r :: l => r.fits && (match l with | [] => true | r' :: _ => lt r.key r'.key) && rowsRight l
def rowsPlace (l : List Row) (key : Str) : Nat := (l.takeWhile fun r => lt r.key key).length
def rowsThere (l : List Row) (key : Str) : Bool :=
  match l[rowsPlace l key]? with | some r => decide (r.key = key) | none => false
def rowsPut (l : List Row) (r : Row) : List Row :=
  let n := rowsPlace l r.key
  l.take n ++ r :: l.drop (if rowsThere l r.key then n + 1 else n)
def rowsDrop (l : List Row) (key : Str) : List Row :=
  if rowsThere l key then l.take (rowsPlace l key) ++ l.drop (rowsPlace l key + 1) else l
def rowsTake (l : List Row) (low high : Str) (unb : Bool) : List Row := l.filter fun r => inSpan low high unb r.key
def rowsJoinOk (a b : List Row) : Bool :=
  match a.getLast?, b.head? with | some x, some y => lt x.key y.key | _, _ => true
def strTake (s : Str) (n : Nat) : Str := s.extract 0 n
/-- bkey.Between, where a is ahead of b -/
def between (a b : Str) : Str := strTake b (common a b + 1)

/-! leaf -/
structure LeafView where
  low : Str := .empty
  high : Str := .empty
  unb : Bool := false
  right : Int := 0
  rows : List Row := []
  gone : Bool := false
  deriving DecidableEq, Inhabited
def LeafView.has (v : LeafView) (k : Str) : Bool := inSpan v.low v.high v.unb k
def leafSound (l : List Row) (low high : Str) (unb : Bool) : Bool :=
  !(unb && high.size != 0) && rowsRight l && l.all fun r => inSpan low high unb r.key
def leafUp (v : LeafView) (r : Rec) : Option LeafView :=
  if r.kind = 2 then
    if (Row.mk r.key r.value).fits && !v.gone && v.has r.key then some { v with rows := rowsPut v.rows ⟨r.key, r.value⟩ } else none
  else if r.kind = 3 then
    if !v.gone && v.has r.key then some { v with rows := rowsDrop v.rows r.key } else none
  else if r.kind = 4 then
    if !v.gone && v.has r.key && lt v.low r.key then
      some { v with rows := v.rows.take (rowsPlace v.rows r.key), high := r.key, unb := false, right := r.page } else none
  else if r.kind = 6 then
    if !v.gone && !v.unb && decide (v.high = r.key) && leafSound r.rows r.key r.high r.unb && !lt r.key v.low && (r.unb || lt r.key r.high) && rowsJoinOk v.rows r.rows then
      some { v with rows := v.rows ++ r.rows, high := r.high, unb := r.unb, right := r.right } else none
  else if r.kind = 5 then
    if !v.gone then some { v with gone := true } else none
  else none
/-- the view of a chain (newest first) -/
def leafView : List Rec → Option LeafView
  | [] => none
  | [b] => if b.kind = 1 && leafSound b.rows b.low b.high b.unb then some ⟨b.low, b.high, b.unb, b.right, b.rows, false⟩ else none
  | r :: r' :: l => (leafView (r' :: l)).bind fun v => leafUp v r
def leafFold (c : List Rec) : Except Int LeafView :=
  if c.any fun r => r.kind < 1 || r.kind > 6 then .error 9
  else match leafView c with | some v => .ok v | none => .error 10
def LeafView.base (v : LeafView) : Rec := { kind := 1, low := v.low, high := v.high, unb := v.unb, right := v.right, rows := v.rows }

/-! inner -/
structure InnerView where
  low : Str := .empty
  high : Str := .empty
  unb : Bool := false
  right : Int := 0
  entries : List Entry := []
  held : Bool := false
  hold : Hold := ⟨0, 0, .empty⟩
  deriving DecidableEq, Inhabited
def InnerView.has (v : InnerView) (k : Str) : Bool := inSpan v.low v.high v.unb k
def entSorted : List Entry → Bool
  | [] => true
  | e :: l => (match l with | [] => true | e' :: _ => lt e.key e'.key) && entSorted l
def InnerView.sound (v : InnerView) : Bool :=
  (match v.entries with | [] => false | e :: _ => decide (e.key = v.low)) && !(v.unb && v.high.size != 0) && v.entries.all (fun e => v.has e.key) && entSorted v.entries
def InnerView.place (v : InnerView) (k : Str) : Nat := (v.entries.takeWhile fun e => lt e.key k).length
def InnerView.there (v : InnerView) (k : Str) : Bool :=
  match v.entries[v.place k]? with | some e => decide (e.key = k) | none => false
def innerUp (v : InnerView) (r : Rec) : Option InnerView :=
  if r.kind = 8 && !v.held then
    if v.there r.key || !v.has r.key then none
    else some { v with entries := v.entries.take (v.place r.key) ++ ⟨r.key, r.page⟩ :: v.entries.drop (v.place r.key) }
  else if r.kind = 9 && !v.held then
    if !v.there r.key || v.place r.key = 0 then none
    else some { v with entries := v.entries.take (v.place r.key), high := r.key, unb := false, right := r.page }
  else if r.kind = 10 && !v.held then
    if v.there r.hold.key && v.place r.hold.key != 0 && (v.entries[v.place r.hold.key]?.map (·.page) == some r.hold.page) && (v.entries[v.place r.hold.key - 1]?.map (·.page) == some r.hold.left) then
      some { v with held := true, hold := r.hold } else none
  else if r.kind = 11 && v.held then
    some { v with entries := v.entries.take (v.place v.hold.key) ++ v.entries.drop (v.place v.hold.key + 1), held := false, hold := ⟨0, 0, .empty⟩ }
  else none
def innerView : List Rec → Option InnerView
  | [] => none
  | [b] =>
    let v : InnerView := ⟨b.low, b.high, b.unb, b.right, b.entries, false, ⟨0, 0, .empty⟩⟩
    if b.kind = 7 && v.sound then some v else none
  | r :: r' :: l => (innerView (r' :: l)).bind fun v => innerUp v r
def innerFold (c : List Rec) : Except Int InnerView :=
  if c.any fun r => r.kind < 7 || r.kind > 11 then .error 9
  else match innerView c with | some v => .ok v | none => .error 10
def InnerView.base (v : InnerView) : Rec := { kind := 7, low := v.low, high := v.high, unb := v.unb, right := v.right, entries := v.entries }
end Go.Proofs.YthidclcliflhkaaGreat.Rl
namespace Go.Proofs.YthidclcliflhkaaGreat.Rl
/-! page, plan -/
structure Page where
  n : Int
  head : Ref
  len : Nat
  leaf : Bool
  rows : LeafView := {}
  inner : InnerView := {}
  deriving Inhabited
def Page.of (n : Int) (head : Ref) (c : List Rec) : Except Int Page :=
  match c.getLast? with
  | some b =>
    if b.kind = 1 then (leafFold c).map fun v => ⟨n, head, c.length, true, v, {}⟩
    else (innerFold c).map fun v => ⟨n, head, c.length, false, {}, v⟩
  | none => .error 10
def Page.low (p : Page) : Str := if p.leaf then p.rows.low else p.inner.low
def Page.high (p : Page) : Str := if p.leaf then p.rows.high else p.inner.high
def Page.unb (p : Page) : Bool := if p.leaf then p.rows.unb else p.inner.unb
def Page.right (p : Page) : Int := if p.leaf then p.rows.right else p.inner.right
def Page.has (p : Page) (k : Str) : Bool := inSpan p.low p.high p.unb k
def Page.size (p : Page) : Nat := p.rows.rows.length + p.inner.entries.length
structure Limits where
  slots : Int
  pages : Int
  threads : Int
  rows : Int
  chain : Int
  count : Int
  deriving DecidableEq, Inhabited
structure Above where
  some : Bool := false
  n : Int := 0
  head : Ref := ⟨0, 0⟩
  view : InnerView := {}
  deriving Inhabited
inductive Plan where
  | down (to : Int) | across (to : Int) | again | post (e : Entry) | help (h : Hold) | tidy | split | grow | hold (h : Hold) | act
  deriving DecidableEq, Inhabited
def beyond (p : Page) (a : Above) (key : Str) (writes : Bool) : Plan :=
  if lt key p.low then .again
  else if writes && a.some && !a.view.held && a.view.has p.high && !a.view.there p.high then .post ⟨p.high, p.right⟩
  else .across p.right
/-- the first entry, but the very first, of a page: its place -/
def entryAt (l : List Entry) (page : Int) : Option Nat := (l.drop 1).findIdx? (fun e => e.page == page) |>.map (· + 1)
def InnerView.hold4 (v : InnerView) (page : Int) : Option Hold :=
  match entryAt v.entries page with
  | some i => match v.entries[i]?, v.entries[i - 1]? with
    | some e, some l => some ⟨page, l.page, e.key⟩
    | _, _ => none
  | none => none
def upkeep (p : Page) (a : Above) (l : Limits) : Option Plan :=
  if (p.len : Int) > l.chain then some .tidy
  else if (p.size : Int) > l.rows && p.n = 0 then some .grow
  else if (p.size : Int) > l.rows then some .split
  else if !p.leaf || p.size > 0 || !a.some || a.view.held then none
  else (a.view.hold4 p.n).map .hold
def InnerView.child (v : InnerView) (key : Str) : Option Entry :=
  let n := if v.there key then v.place key + 1 else v.place key
  if !v.has key || n = 0 then none else v.entries[n - 1]?
def descend (p : Page) (key : Str) : Plan :=
  if p.leaf then .act else match p.inner.child key with | some e => .down e.page | none => .again
def decide' (p : Page) (a : Above) (key : Str) (l : Limits) (writes : Bool) : Plan :=
  if p.leaf && p.rows.gone then .again
  else if writes && !p.leaf && p.inner.held then .help p.inner.hold
  else if !p.has key then beyond p a key writes
  else if writes then match upkeep p a l with | some x => x | none => descend p key
  else descend p key
def back (p : Page) (high : Str) (unb helps : Bool) : Plan :=
  if p.leaf && p.rows.gone then .again
  else if helps && !p.leaf && p.inner.held then .help p.inner.hold
  else if !p.unb && (unb || lt p.high high) then .across p.right
  else if p.leaf then .act
  else match p.inner.entries.reverse.find? (fun e => unb || lt e.key high) with
    | some e => .down e.page
    | none => .again

/-! memory -/
structure Slot where
  gen : Int := 0
  used : Bool := false
  r : Rec := {}
  deriving Inhabited
structure Pg where
  used : Bool := false
  head : Ref := ⟨0, 0⟩
  deriving DecidableEq, Inhabited
structure Mem where
  limits : Limits
  slots : List Slot
  table : List Pg
  now : Int
  inside : List (Option Int)     -- a place a thread
  count : Int
  deriving Inhabited
/-- a free slot that is not worn -/
def Mem.free? (m : Mem) : Option Nat := m.slots.findIdx? fun s => !s.used && s.gen != m.limits.count
def Mem.allocErr (m : Mem) : Int := if m.slots.any (fun s => !s.used && s.gen == m.limits.count) then 5 else 3
def Mem.tick (m : Mem) : Mem := { m with count := m.count + 1 }
def Mem.alloc (m : Mem) (r : Rec) : Except Int Ref × Mem :=
  match m.free? with
  | some i => (.ok ⟨i + 1, (m.slots[i]?.map (·.gen)).getD 0 + 1⟩, { m.tick with slots := m.slots.modify i fun s => ⟨s.gen + 1, true, r⟩ })
  | none => (.error m.allocErr, m.tick)
def Mem.slotAt (m : Mem) (x : Ref) : Except Int Slot :=
  if x.slot < 1 || x.slot > m.slots.length then .error 1
  else match m.slots[(x.slot - 1).toNat]? with
    | some s => if s.used && s.gen == x.gen then .ok s else .error 4
    | none => .error 1
def Mem.load (m : Mem) (x : Ref) : Except Int Rec := (m.slotAt x).map (·.r)
def Mem.freeSlot (m : Mem) (x : Ref) : Mem :=
  match m.slotAt x with
  | .ok _ => { m.tick with slots := m.slots.modify (x.slot - 1).toNat fun s => ⟨s.gen, false, {}⟩ }
  | .error _ => m.tick
def Mem.pageAt (m : Mem) (n : Int) : Except Int Pg :=
  if n < 0 || n ≥ m.table.length then .error 1
  else match m.table[n.toNat]? with
    | some p => if p.used then .ok p else .error 6
    | none => .error 1
def Mem.head (m : Mem) (n : Int) : Except Int Ref := (m.pageAt n).map (·.head)
def Mem.swap (m : Mem) (n : Int) (old new : Ref) : Except Int Bool × Mem :=
  match m.pageAt n with
  | .error e => (.error e, m.tick)
  | .ok p => if p.head = old then (.ok true, { m.tick with table := m.table.set n.toNat ⟨true, new⟩ }) else (.ok false, m.tick)
def Mem.take (m : Mem) : Except Int Int × Mem :=
  match m.table.findIdx? (fun p => !p.used) with
  | some i => (.ok i, { m.tick with table := m.table.set i ⟨true, ⟨0, 0⟩⟩ })
  | none => (.error 3, m.tick)
def Mem.give (m : Mem) (n : Int) : Mem :=
  match m.pageAt n with
  | .error _ => m.tick
  | .ok _ => { m.tick with table := m.table.set n.toNat {} }
def Mem.bump (m : Mem) : Int × Int × Mem :=   -- the number, the code
  if m.now = m.limits.count then (m.now, 5, m.tick) else (m.now + 1, 0, { m.tick with now := m.now + 1 })
end Go.Proofs.YthidclcliflhkaaGreat.Rl
end
section
namespace Go.Proofs.YthidclcliflhkaaGreat.Rl

theorem u8_lt_irrefl (a : UInt8) : ¬ a < a := UInt8.lt_irrefl a
theorem u8_tri (a b : UInt8) : a < b ∨ a = b ∨ b < a := by
  rcases Nat.lt_trichotomy a.toNat b.toNat with h | h | h
  · exact .inl h
  · exact .inr (.inl (UInt8.toNat_inj.1 h))
  · exact .inr (.inr h)

theorem ltL_irrefl : ∀ l : List UInt8, ltL l l = false
  | [] => rfl
  | a :: l => by simp [ltL, ltL_irrefl l]
theorem ltL_asymm : ∀ a b : List UInt8, ltL a b = true → ltL b a = false
  | _, [], h => by simp [ltL] at h
  | [], _ :: _, _ => rfl
  | a :: as, b :: bs, h => by
    simp only [ltL] at h ⊢
    by_cases h1 : a < b
    · have h2 : ¬ b < a := fun h2 => UInt8.lt_irrefl a (UInt8.lt_trans h1 h2)
      simp [h1, h2]
    · by_cases h2 : b < a
      · simp [h1, h2] at h
      · simp only [h1, h2, if_false] at h ⊢
        exact ltL_asymm as bs h
theorem ltL_tri : ∀ a b : List UInt8, ltL a b = false → ltL b a = false → a = b
  | [], [], _, _ => rfl
  | [], _ :: _, h, _ => by simp [ltL] at h
  | _ :: _, [], _, h => by simp [ltL] at h
  | a :: as, b :: bs, h, h' => by
    simp only [ltL] at h h'
    rcases u8_tri a b with h1 | h1 | h1
    · simp [h1] at h
    · subst h1
      simp only [UInt8.lt_irrefl, if_false] at h h'
      rw [ltL_tri as bs h h']
    · simp [h1] at h'
theorem ltL_trans : ∀ a b c : List UInt8, ltL a b = true → ltL b c = true → ltL a c = true
  | _, [], _, h, _ => by simp [ltL] at h
  | _, _ :: _, [], _, h => by simp [ltL] at h
  | [], _ :: _, _ :: _, _, _ => rfl
  | a :: as, b :: bs, c :: cs, h, h' => by
    simp only [ltL] at h h' ⊢
    by_cases h1 : a < b
    · by_cases h2 : b < c
      · simp [UInt8.lt_trans h1 h2]
      · by_cases h3 : c < b
        · simp [h2, h3] at h'
        · have : b = c := by rcases u8_tri b c with e | e | e; exact absurd e h2; exact e; exact absurd e h3
          subst this; simp [h1]
    · by_cases h2 : b < a
      · simp [h1, h2] at h
      · have : a = b := by rcases u8_tri a b with e | e | e; exact absurd e h1; exact e; exact absurd e h2
        subst this
        simp only [UInt8.lt_irrefl, if_false] at h
        by_cases h3 : a < c
        · simp [h3]
        · by_cases h4 : c < a
          · simp [h3, h4] at h'
          · simp only [h3, h4, if_false] at h' ⊢
            exact ltL_trans as bs cs h h'

theorem bs_ext {a b : Str} (h : a.data.toList = b.data.toList) : a = b := by
  cases a; cases b; simp only at h; congr; exact Array.toList_inj.1 h
theorem lt_irrefl (a : Str) : lt a a = false := ltL_irrefl _
theorem lt_asymm {a b : Str} (h : lt a b = true) : lt b a = false := ltL_asymm _ _ h
theorem lt_trans {a b c : Str} (h : lt a b = true) (h' : lt b c = true) : lt a c = true := ltL_trans _ _ _ h h'
theorem lt_tri {a b : Str} (h : lt a b = false) (h' : lt b a = false) : a = b := bs_ext (ltL_tri _ _ h h')
theorem le_lt_trans {a b c : Str} (h : lt b a = false) (h' : lt b c = true) : lt a c = true := by
  cases e : lt a b with
  | true => exact lt_trans e h'
  | false => rw [lt_tri e h]; exact h'
theorem lt_le_trans {a b c : Str} (h : lt a b = true) (h' : lt c b = false) : lt a c = true := by
  cases e : lt b c with
  | true => exact lt_trans h e
  | false => rw [← lt_tri e h']; exact h
theorem le_trans' {a b c : Str} (h : lt b a = false) (h' : lt c b = false) : lt c a = false := by
  cases e : lt c a with
  | false => rfl
  | true => rw [lt_le_trans e h] at h'; cases h'
theorem lt_empty (a : Str) : lt a .empty = false := by show ltL _ [] = false; cases a.data.toList <;> rfl
theorem empty_le (a : Str) : lt a .empty = false := lt_empty a

/-! what Compare finds, by where the two part -/
theorem commonL_le : ∀ a b : List UInt8, commonL a b ≤ a.length ∧ commonL a b ≤ b.length
  | [], _ => by simp [commonL]
  | _ :: _, [] => by simp [commonL]
  | a :: as, b :: bs => by
    have := commonL_le as bs
    simp only [commonL]
    split
    · simp only [List.length_cons]; omega
    · simp
theorem commonL_eq : ∀ (a b : List UInt8) (k : Nat), k ≤ a.length → k ≤ b.length → (∀ j, j < k → a[j]? = b[j]?) → (k = a.length ∨ k = b.length ∨ a[k]? ≠ b[k]?) → commonL a b = k
  | [], b, k, h, _, _, _ => by simp at h; simp [commonL, h]
  | a :: as, [], k, _, h, _, _ => by simp at h; simp [commonL, h]
  | a :: as, b :: bs, 0, _, _, _, h => by
    simp at h; simp [commonL, h]
  | a :: as, b :: bs, k + 1, h1, h2, h3, h4 => by
    have e : a = b := by have := h3 0 (by omega); simpa using this
    have := commonL_eq as bs k (by simpa using h1) (by simpa using h2) (fun j hj => by have := h3 (j + 1) (by omega); simpa using this) (by simpa using h4)
    simp [commonL, e, this]
theorem ltL_common : ∀ (a b : List UInt8) (n : Nat), n = commonL a b →
    ltL a b = (if n = b.length then false else if n = a.length then true else decide ((a.getD n 0) < (b.getD n 0)))
  | [], [], _, h => by simp [commonL] at h; simp [ltL, h]
  | [], b :: bs, _, h => by simp [commonL] at h; simp [ltL, h]
  | a :: as, [], _, h => by simp [commonL] at h; simp [ltL, h]
  | a :: as, b :: bs, n, h => by
    simp only [commonL] at h
    split at h
    · rename_i e
      subst e
      subst h
      have := ltL_common as bs _ rfl
      simp only [ltL, UInt8.lt_irrefl, if_false]
      rw [this]
      simp
    · rename_i e
      subst h
      simp only [ltL]
      rcases u8_tri a b with h1 | h1 | h1
      · simp [h1]
      · exact absurd h1 e
      · have : ¬ a < b := fun h2 => UInt8.lt_irrefl a (UInt8.lt_trans h2 h1)
        simp [h1, this]
theorem common_le (a b : Str) : common a b ≤ a.size ∧ common a b ≤ b.size := by
  have := commonL_le a.data.toList b.data.toList
  simpa [common, Array.length_toList] using this
theorem common_comm_aux : ∀ a b : List UInt8, commonL a b = commonL b a
  | [], [] => rfl
  | [], _ :: _ => rfl
  | _ :: _, [] => rfl
  | a :: as, b :: bs => by simp only [commonL, eq_comm (a := a) (b := b), common_comm_aux as bs]
theorem getD_data (a : Str) (n : Nat) (h : n < a.size) : a.data.toList.getD n 0 = a[n] := by
  have h' : n < a.data.toList.length := by simpa using h
  rw [List.getD_eq_getElem?_getD, List.getElem?_eq_getElem h']
  rfl
theorem lt_of_common (a b : Str) :
    lt a b = (if common a b = b.size then false else if common a b = a.size then true else decide ((a.data.toList.getD (common a b) 0) < (b.data.toList.getD (common a b) 0))) := by
  have := ltL_common a.data.toList b.data.toList _ rfl
  simpa [lt, common, Array.length_toList] using this
theorem common_comm (a b : Str) : common a b = common b a := common_comm_aux _ _
theorem common_ne {a b : Str} (h1 : common a b < a.size) (h2 : common a b < b.size) : a.data.toList.getD (common a b) 0 ≠ b.data.toList.getD (common a b) 0 := by
  have key : ∀ (x y : List UInt8), commonL x y < x.length → commonL x y < y.length → x.getD (commonL x y) 0 ≠ y.getD (commonL x y) 0 := by
    intro x
    induction x with
    | nil => intro y h; simp at h
    | cons a as ih =>
      intro y h1 h2
      cases y with
      | nil => simp at h2
      | cons b bs =>
        by_cases e : a = b
        · simp only [commonL, e, if_true] at h1 h2 ⊢
          simp only [List.length_cons] at h1 h2
          have := ih bs (by omega) (by omega)
          simpa using this
        · simp [commonL, e]
  exact key _ _ (by simpa [common] using h1) (by simpa [common] using h2)
theorem cmp_lt {a b : Str} : cmp a b < 0 ↔ lt a b = true := by
  unfold cmp; split
  · rename_i h; simp [h]
  · rename_i h; split <;> simp_all
theorem cmp_eq {a b : Str} : cmp a b = 0 ↔ a = b := by
  unfold cmp; split
  · rename_i h; constructor
    · intro h'; cases h'
    · rintro rfl; rw [lt_irrefl] at h; cases h
  · rename_i h; split
    · rename_i h'; constructor
      · intro h''; cases h''
      · rintro rfl; rw [lt_irrefl] at h'; cases h'
    · rename_i h'; exact ⟨fun _ => lt_tri (by simpa using h) (by simpa using h'), fun _ => rfl⟩
theorem cmp_gt {a b : Str} : 0 < cmp a b ↔ lt b a = true := by
  unfold cmp; split
  · rename_i h; have := lt_asymm h; simp [this]
  · split <;> simp_all
theorem cmp_bounds (a b : Str) : -1 ≤ cmp a b ∧ cmp a b ≤ 1 := by unfold cmp; split; omega; split <;> omega
end Go.Proofs.YthidclcliflhkaaGreat.Rl
end
section
namespace Go.Proofs.YthidclcliflhkaaGreat.Rl

theorem tw_le {α : Type} (p : α → Bool) (l : List α) : (l.takeWhile p).length ≤ l.length := by
  induction l with
  | nil => simp
  | cons a l ih => rw [List.takeWhile_cons]; split <;> simp <;> omega
theorem tw_before {α : Type} (p : α → Bool) : ∀ (l : List α) (k : Nat) (_ : k < (l.takeWhile p).length), ∀ (h' : k < l.length), p l[k] = true
  | [], k, h => by simp at h
  | a :: l, k, h => by
    intro h'
    rw [List.takeWhile_cons] at h
    split at h
    · rename_i e
      cases k with
      | zero => exact e
      | succ k => simpa using tw_before p l k (by simpa using h) (by simpa using h')
    · simp at h
theorem tw_at {α : Type} (p : α → Bool) : ∀ (l : List α) (h : (l.takeWhile p).length < l.length), p (l[(l.takeWhile p).length]) = false
  | [], h => by simp at h
  | a :: l, h => by
    cases e : p a with
    | true =>
      have hl : (l.takeWhile p).length < l.length := by simpa [List.takeWhile_cons, e] using h
      have ih := tw_at p l hl
      simp only [List.takeWhile_cons, e, if_true, List.length_cons, List.getElem_cons_succ]
      exact ih
    | false => simp [e]
theorem tw_stop {α : Type} (p : α → Bool) (l : List α) (k : Nat) (h : k ≤ (l.takeWhile p).length) (h' : k = l.length ∨ ∃ h : k < l.length, p l[k] = false) : (l.takeWhile p).length = k := by
  have hle := tw_le p l
  rcases h' with h' | ⟨hk, h'⟩
  · omega
  · rcases Nat.lt_or_ge k (l.takeWhile p).length with h2 | h2
    · rw [tw_before p l k h2 hk] at h'; cases h'
    · omega
theorem tw_next {α : Type} (p : α → Bool) (l : List α) (k : Nat) (h : k ≤ (l.takeWhile p).length) (hk : k < l.length) (h' : p l[k] = true) : k + 1 ≤ (l.takeWhile p).length := by
  rcases Nat.lt_or_ge k (l.takeWhile p).length with h2 | h2
  · omega
  · have e : (l.takeWhile p).length = k := by omega
    have := tw_at p l (by omega)
    simp only [e] at this
    rw [h'] at this; cases this
theorem rowsPlace_le (l : List Row) (key : Str) : rowsPlace l key ≤ l.length := tw_le _ _
theorem rowsThere_iff (l : List Row) (key : Str) : rowsThere l key = true ↔ ∃ h : rowsPlace l key < l.length, l[rowsPlace l key].key = key := by
  unfold rowsThere
  by_cases h : rowsPlace l key < l.length
  · rw [List.getElem?_eq_getElem h]; simp [h]
  · rw [List.getElem?_eq_none (by omega)]; simp [h]
theorem rowsThere_lt {l : List Row} {key : Str} (h : rowsThere l key = true) : rowsPlace l key < l.length := ((rowsThere_iff l key).1 h).1
end Go.Proofs.YthidclcliflhkaaGreat.Rl
end
