/- What rows' functions compute: contracts. What rows' functions compute: contracts, the second part. -/
import Derived.Test.YthidclcliflhkaaGreatZ01
section
open Go Go.RowKit
namespace Go.Proofs.YthidclcliflhkaaGreat
open Rl (lt cmp common keyOk inSpan)

set_option maxHeartbeats 400000 in
theorem place_any (l : List Rl.Row) (key : ByteArray) (A : Option Addr) (B c : Nat) (w : World) (hr : RowsR w B A l) (hl : RowsOk l) (hk : key.size ≤ maxLen) :
   Calls Tryz.prog 93 #[.slice A l.length c, .string key] w (Ret (.int .i64 (Rl.rowsPlace l key : Nat)) w) := by
  have hlen := hl.1
  go_enter Tryz.func93, Tryz.ntmps93
  go_wp2
  go_loopw [5] (fun n wr => ∃ k : Nat, k ≤ l.length ∧ n = .int .i64 k ∧ Hid (k ≤ Rl.rowsPlace l key) ∧ ∃ m, wr = w.drewN m) (fun n _ => l.length - (intOf n).toNat)
  case atStart => exact ⟨0, Nat.zero_le _, rfl, Lib.hid (Nat.zero_le _), 0, rfl⟩
  case round =>
    obtain ⟨k, hk1, rfl, HP, m, rfl⟩ := hrel
    by_cases h1 : k < l.length
    · obtain ⟨ad, rfl, hb, hc1, hc2⟩ := hr.at_ h1
      have hkk := hl.key h1
      go_wp2_with fail
      refine (compare_any _ _ _ hkk hk).mono ?_
      rintro e w' ⟨rfl, n, rfl⟩
      by_cases h2 : cmp l[k].key key < 0
      · have HN : Hid (k + 1 ≤ Rl.rowsPlace l key) := Lib.hid (Rl.tw_next _ l k HP.out h1 (Rl.cmp_lt.1 h2))
        go_wp2
        exact ⟨⟨k + 1, by omega, by go_num, HN, m + n, by simp⟩, by simp [intOf]; omega⟩
      · have HN : Hid (Rl.rowsPlace l key = k) := Lib.hid (Rl.tw_stop _ l k HP.out (.inr ⟨h1, by
          cases e : lt l[k].key key with
          | false => rfl
          | true => exact absurd (Rl.cmp_lt.2 e) h2⟩))
        go_wp2
        go_ret
        exact Ret.mk' (congrArg (fun n : Nat => Value.int .i64 n) HN.out.symm) (m + n) (by simp)
    · have HN : Hid (Rl.rowsPlace l key = k) := Lib.hid (Rl.tw_stop _ l k HP.out (.inl (by omega)))
      go_wp2
      go_ret
      exact Ret.mk' (congrArg (fun n : Nat => Value.int .i64 n) HN.out.symm) _ rfl

set_option maxHeartbeats 400000 in
theorem find_any (l : List Rl.Row) (key : ByteArray) (A : Option Addr) (B c : Nat) (w : World) (hr : RowsR w B A l) (hl : RowsOk l) (hk : key.size ≤ maxLen) :
   Calls Tryz.prog 91 #[.slice A l.length c, .string key] w (Ret (.tuple #[.int .i64 (Rl.rowsPlace l key : Nat), .bool (Rl.rowsThere l key)]) w) := by
  have hlen := hl.1
  have hle := Rl.rowsPlace_le l key
  have HT := Lib.hid (Rl.rowsThere_iff l key)
  go_enter Tryz.func91, Tryz.ntmps91
  go_wp2_with fail
  refine (place_any l key A B c _ hr hl hk).mono ?_
  rintro e w' ⟨rfl, n, rfl⟩
  obtain ⟨p, HP⟩ : ∃ p, Hid (Rl.rowsPlace l key = p) := ⟨_, Lib.hid rfl⟩
  rw [HP.out] at hle ⊢
  have HT' : Hid (Rl.rowsThere l key = true ↔ ∃ h : p < l.length, l[p].key = key) := by
    have := HT.out; simp only [HP.out] at this; exact this
  clear HT
  by_cases h1 : p < l.length
  · obtain ⟨ad, rfl, hb, hc1, hc2⟩ := hr.at_ h1
    have h1' : (p : Int) < (l.length : Int) := by omega
    by_cases h2 : l[p].key = key
    · have HX : Hid (Rl.rowsThere l key = true) := Lib.hid (HT'.out.2 ⟨h1, h2⟩)
      have h3 : (ByteArray.toList l[p].key == key.toList) = true := str_eq h2
      have h2 := Lib.hid h2
      go_wp2
      go_quiet (fail)
      go_wp2
      go_ret2
      exact Ret.mk2 (by rw [HP.out, HX.out]; rfl) _ _
    · have HX : Hid (Rl.rowsThere l key = false) := Lib.hid (by
        cases e : Rl.rowsThere l key with
        | false => rfl
        | true => obtain ⟨_, h⟩ := HT'.out.1 e; exact absurd h h2)
      have h3 : (ByteArray.toList l[p].key == key.toList) = false := str_ne h2
      clear h2
      go_wp2
      go_quiet (fail)
      go_wp2
      go_ret2
      exact Ret.mk2 (by rw [HP.out, HX.out]; rfl) _ _
  · have HX : Hid (Rl.rowsThere l key = false) := Lib.hid (by
      cases e : Rl.rowsThere l key with
      | false => rfl
      | true => obtain ⟨h, _⟩ := HT'.out.1 e; exact absurd h h1)
    have h1'' : decide (p < l.length) = false := by simp; omega
    go_wp2
    go_quiet (fail)
    go_wp2
    go_ret2
    exact Ret.mk2 (by rw [HP.out, HX.out]; rfl) _ _
theorem row_info : (Tryz.prog.info? 50).map (fun i => (i.zero, i.size, i.bytes)) = some (some (.agg #[.string ByteArray.empty, .string ByteArray.empty]), 2, 32) := by kernel_rfl

/-- The parts of 'list': a slice of slices of rows. -/
structure PartsR (w : World) (B : Nat) (P : Option Addr) (ls : List (List Rl.Row)) (vs : List Value) : Prop where
  len : vs.length = ls.length
  cells : Reads w B 1 P ls.length vs
  one : ∀ (i : Nat) (h : i < ls.length), ∃ A c, vs[i]? = some (.slice A ls[i].length c) ∧ RowsR w B A ls[i]
theorem PartsR.below {w w' : World} {B : Nat} {P : Option Addr} {ls : List (List Rl.Row)} {vs : List Value} (h : PartsR w B P ls vs) (hb : Below B w w') : PartsR w' B P ls vs :=
  ⟨h.len, h.cells.below hb, fun i hi => let ⟨A, c, h1, h2⟩ := h.one i hi; ⟨A, c, h1, Reads.below h2 hb⟩⟩
theorem RowsR.alloc {w : World} {A : Option Addr} {l : List Rl.Row} (h : RowsR w w.heap.size A l) (o : Obj) : RowsR (w.alloc o) (w.alloc o).heap.size A l :=
  Reads.more (Reads.alloc h (Nat.le_refl _) o) (by simp)
theorem RowsR.below {w w' : World} {A : Option Addr} {l : List Rl.Row} (h : RowsR w w.heap.size A l) (hb : Below w.heap.size w w') : RowsR w' w'.heap.size A l :=
  Reads.more (Reads.below h hb) hb.size
theorem RowsR.one {w : World} {b B : Nat} {cs : Array Value} {r : Rl.Row} (h : w.heap[b]? = some (.cells cs 50)) (h0 : cs = #[.string r.key, .string r.value]) (hb : b < B) : RowsR w B (some ⟨b, 0, none⟩) [r] := by
  subst h0
  refine ⟨rfl, fun _ => ⟨_, rfl, hb, fun j u hu => ?_⟩⟩
  have e : (⟨b, 0, none⟩ : Addr).add j = ⟨b, j, none⟩ := by unfold Addr.add; split <;> simp_all
  rw [e, Blk.cell (t := 50) h]
  match j with
  | 0 => simpa [rowCells] using hu
  | 1 => simpa [rowCells] using hu
  | j + 2 => simp [rowCells] at hu
theorem PartsR.of3 {W : World} {pb B : Nat} {l0 l1 l2 : List Rl.Row} {A0 A1 A2 : Option Addr} {n0 n1 n2 c0 c1 c2 : Nat}
    (hblk : W.heap[pb]? = some (.cells #[.slice A0 n0 c0, .slice A1 n1 c1, .slice A2 n2 c2] 46)) (hb : pb < B)
    (e0 : n0 = l0.length) (e1 : n1 = l1.length) (e2 : n2 = l2.length) (h0 : RowsR W B A0 l0) (h1 : RowsR W B A1 l1) (h2 : RowsR W B A2 l2) :
    PartsR W B (some ⟨pb, 0, none⟩) [l0, l1, l2] [.slice A0 n0 c0, .slice A1 n1 c1, .slice A2 n2 c2] := by
  subst e0; subst e1; subst e2
  refine ⟨rfl, ⟨rfl, fun _ => ⟨_, rfl, hb, fun j u hu => ?_⟩⟩, fun i hi => ?_⟩
  · have e : (⟨pb, 0, none⟩ : Addr).add j = ⟨pb, j, none⟩ := by unfold Addr.add; split <;> simp_all
    rw [e, Blk.cell (t := 46) hblk]; simpa using hu
  · match i, hi with
    | 0, _ => exact ⟨_, _, rfl, h0⟩
    | 1, _ => exact ⟨_, _, rfl, h1⟩
    | 2, _ => exact ⟨_, _, rfl, h2⟩
theorem PartsR.of2 {W : World} {pb B : Nat} {l0 l1 : List Rl.Row} {A0 A1 : Option Addr} {n0 n1 c0 c1 : Nat}
    (hblk : W.heap[pb]? = some (.cells #[.slice A0 n0 c0, .slice A1 n1 c1] 46)) (hb : pb < B)
    (e0 : n0 = l0.length) (e1 : n1 = l1.length) (h0 : RowsR W B A0 l0) (h1 : RowsR W B A1 l1) :
    PartsR W B (some ⟨pb, 0, none⟩) [l0, l1] [.slice A0 n0 c0, .slice A1 n1 c1] := by
  subst e0; subst e1
  refine ⟨rfl, ⟨rfl, fun _ => ⟨_, rfl, hb, fun j u hu => ?_⟩⟩, fun i hi => ?_⟩
  · have e : (⟨pb, 0, none⟩ : Addr).add j = ⟨pb, j, none⟩ := by unfold Addr.add; split <;> simp_all
    rw [e, Blk.cell (t := 46) hblk]; simpa using hu
  · match i, hi with
    | 0, _ => exact ⟨_, _, rfl, h0⟩
    | 1, _ => exact ⟨_, _, rfl, h1⟩
theorem PartsR.of1 {W : World} {pb B : Nat} {l0 : List Rl.Row} {A0 : Option Addr} {n0 c0 : Nat}
    (hblk : W.heap[pb]? = some (.cells #[.slice A0 n0 c0] 46)) (hb : pb < B)
    (e0 : n0 = l0.length) (h0 : RowsR W B A0 l0) :
    PartsR W B (some ⟨pb, 0, none⟩) [l0] [.slice A0 n0 c0] := by
  subst e0
  refine ⟨rfl, ⟨rfl, fun _ => ⟨_, rfl, hb, fun j u hu => ?_⟩⟩, fun i hi => ?_⟩
  · have e : (⟨pb, 0, none⟩ : Addr).add j = ⟨pb, j, none⟩ := by unfold Addr.add; split <;> simp_all
    rw [e, Blk.cell (t := 46) hblk]; simpa using hu
  · match i, hi with
    | 0, _ => exact ⟨_, _, rfl, h0⟩
theorem flatten_take_succ (ls : List (List Rl.Row)) (k : Nat) (h : k < ls.length) : (ls.take (k + 1)).flatten = (ls.take k).flatten ++ ls[k] := by
  rw [List.take_succ_eq_append_getElem h, List.flatten_append]; simp
theorem flatten_take_le (ls : List (List Rl.Row)) (k : Nat) : (ls.take k).flatten.length ≤ ls.flatten.length := by
  conv => rhs; rw [← List.take_append_drop k ls, List.flatten_append]
  simp

set_option maxHeartbeats 400000 in
theorem list_any' (ls : List (List Rl.Row)) (vs : List Value) (P : Option Addr) (c : Nat) (w : World) (hp : PartsR w w.heap.size P ls vs) (hl : ls.flatten.length ≤ 1099511627776) (hk : ls.length ≤ 1099511627776) :
   Calls Tryz.prog 66 #[.slice P ls.length c] w fun e w' => ∃ v, e = .returned v ∧ OwnRows w w' v ls.flatten := by
  obtain ⟨i0, hi0, hz0, hz1, hz2⟩ := info_parts row_info
  go_enter Tryz.func66, Tryz.ntmps66
  go_wp2
  go_loopw [3, 8] (fun o i wr => ∃ (k : Nat) (A : Option Addr) (cc : Nat), k ≤ ls.length ∧ i = .int .i64 k ∧ o = .slice A (ls.take k).flatten.length cc ∧
      wr.ownsRow w.heap.size 50 2 (.slice A (ls.take k).flatten.length cc) (ls.take k).flatten.length (rowCells (ls.take k).flatten) ∧ Below w.heap.size w wr) (fun _ i _ => ls.length - (intOf i).toNat)
  case atStart => exact ⟨0, none, 0, Nat.zero_le _, rfl, rfl, World.ownsRow_nil _ _ _ _, Below.refl _ _⟩
  case round =>
    obtain ⟨k, A, cc, hk1, rfl, rfl, hown, hb⟩ := hrel
    by_cases h1 : k < ls.length
    · have hp' := hp.below hb
      obtain ⟨ad, u, rfl, hab, hu, hcell⟩ := hp'.cells.at_ h1
      obtain ⟨A', c', hu', hr'⟩ := hp'.one k h1
      rw [hu] at hu'
      injection hu' with hu'
      subst hu'
      have hf := flatten_take_le ls (k + 1)
      rw [flatten_take_succ ls k h1, List.length_append] at hf
      have hbs := hb.size
      have HF := Lib.hid (flatten_take_succ ls k h1)
      go_wp2_with (at_builtin
                   refine wpList_append_any _ rfl (.tmp 12) (.tmp 13) _ rfl w.heap.size 50 i0 _ 2 32 Tryz.underlying46 hi0 hz0 hz1 hz2 rfl (by omega) _ _ _ rfl
                     hown w.heap.size A' _ c' (rowCells ls[k]) rfl hr' (rowCells_one _) (by simp only [maxLen]; omega) (by omega) hbs ?_
                   intro v1 w1 hown1 hg1 hat1)
      obtain ⟨A1, c1, rfl, _⟩ := own_form hown1
      have hb1 : Below w.heap.size w w1 := hb.grown hg1 hbs (fun g hg => (hown.lt g hg).1)
      refine ⟨⟨k + 1, A1, c1, by omega, by go_num, ?_, ?_, hb1⟩, by simp [intOf]; omega⟩
      · rw [HF.out, List.length_append]
      · rw [HF.out, List.length_append, rowCells_append]; exact hown1
    · obtain rfl : k = ls.length := by omega
      rw [List.take_length] at hown ⊢
      have HO := Lib.hid hown; clear hown
      go_wp2
      go_ret
      exact ⟨_, rfl, A, cc, rfl, HO.out, hb⟩
def Parts (w : World) (B : Nat) (P : Option Addr) (ls : List (List Rl.Row)) : Prop := ∃ vs, PartsR w B P ls vs
theorem list_any (ls : List (List Rl.Row)) (P : Option Addr) (n c : Nat) (w : World) (hn : n = ls.length) (hp : Parts w w.heap.size P ls) (hl : ls.flatten.length ≤ 1099511627776) (hk : ls.length ≤ 1099511627776) :
   Calls Tryz.prog 66 #[.slice P n c] w fun e w' => ∃ v, e = .returned v ∧ OwnRows w w' v ls.flatten := by
  obtain ⟨vs, hp⟩ := hp
  subst hn; exact list_any' ls vs P c w hp hl hk
theorem fits_any (k v : ByteArray) (w : World) (hk : k.size ≤ maxLen) (_ : v.size ≤ maxLen) :
    Calls Tryz.prog 88 #[.agg #[.string k, .string v]] w fun e w' => e = .returned (.bool (Rl.Row.fits ⟨k, v⟩)) ∧ ∃ n, w' = (w.alloc (.cells #[.string k, .string v] 50)).drewN n := by
  go_enter Tryz.func88, Tryz.ntmps88
  go_wp2_with fail
  refine (right_any _ _ hk).mono ?_
  rintro e w' ⟨rfl, n, rfl⟩
  cases h : keyOk k with
  | true =>
    have H := Lib.hid h; clear h
    go_wp2
    go_ret
    exact ⟨congrArg (fun b => Ending.returned (Value.bool b)) (by simp [Rl.Row.fits, H.out]; omega), _, rfl⟩
  | false =>
    have H := Lib.hid h; clear h
    go_wp2
    go_ret
    exact ⟨congrArg (fun b => Ending.returned (Value.bool b)) (by simp [Rl.Row.fits, H.out]), _, rfl⟩
theorem put_parts {l : List Rl.Row} {k v : ByteArray} {A : Option Addr} {c p p' b b' : Nat} {X : World} (hr : RowsR X X.heap.size A l) (hc : l.length ≤ c) (hp : p ≤ l.length) (hp' : p' ≤ l.length)
    (hb : b = X.heap.size) (hb' : b' = X.heap.size + 1) :
    Parts ((X.alloc (.cells #[.string k, .string v] 50)).alloc (.cells #[.slice A p c, .slice (some ⟨b, 0, none⟩) 1 1, .slice (if c = p' then A else Option.map (fun x => x.add (p' * 2)) A) (l.length - p') (c - p')] 46))
      ((X.alloc (.cells #[.string k, .string v] 50)).alloc (.cells #[.slice A p c, .slice (some ⟨b, 0, none⟩) 1 1, .slice (if c = p' then A else Option.map (fun x => x.add (p' * 2)) A) (l.length - p') (c - p')] 46)).heap.size
      (some ⟨b', 0, none⟩) [l.take p, [⟨k, v⟩], l.drop p'] := by
  have hr1 := RowsR.alloc hr (.cells #[.string k, .string v] 50)
  have h2 := fun o => RowsR.alloc hr1 o
  have hb1 := heap_alloc_new X (.cells #[.string k, .string v] 50)
  rw [← hb] at hb1
  have hlt := Blk.lt (t := 50) hb1
  have hs : b' = (X.alloc (.cells #[.string k, .string v] 50)).heap.size := by rw [hb']; simp
  generalize X.alloc (.cells #[.string k, .string v] 50) = W at *
  subst hs
  refine ⟨_, PartsR.of3 (heap_alloc_new W _) (by simp) (by rw [List.length_take]; omega) rfl (by rw [List.length_drop]) ((h2 _).take p) ?_ ((h2 _).drop p' hp' hc)⟩
  exact RowsR.one (r := ⟨k, v⟩) ((Below.heap_alloc W _ _ hlt).trans hb1) rfl (by simp; omega)
theorem put_flat (l : List Rl.Row) (r : Rl.Row) (p p' : Nat) : ([l.take p, [r], l.drop p'] : List (List Rl.Row)).flatten = l.take p ++ r :: l.drop p' := by simp
set_option maxHeartbeats 400000 in
theorem put_any (l : List Rl.Row) (k v : ByteArray) (A : Option Addr) (c : Nat) (w : World) (hr : RowsR w w.heap.size A l) (hl : RowsOk l) (hc : l.length ≤ c) (hk : k.size ≤ maxLen) (hv : v.size ≤ maxLen)
    (hf : Rl.Row.fits ⟨k, v⟩ = true) (hl1 : l.length < 1099511627776) :
    Calls Tryz.prog 69 #[.slice A l.length c, .agg #[.string k, .string v]] w fun e w' => ∃ r, e = .returned (.tuple #[r, .bool (Rl.rowsThere l k), .nilIface]) ∧ OwnRows w w' r (Rl.rowsPut l ⟨k, v⟩) := by
  have hlen := hl.1
  go_enter Tryz.func69, Tryz.ntmps69
  go_wp2_with fail
  refine (fits_any _ _ _ hk hv).mono ?_
  rintro e w' ⟨rfl, n, rfl⟩
  rw [hf]
  go_wp2_with fail
  refine (find_any l k A w.heap.size c _ (Reads.below hr (by repeat' (first | (with_reducible exact Below.refl _ _) | (with_reducible assumption) | (with_reducible refine Below.alloc ?_ ?_ _) | (with_reducible refine below_drewN ?_ _) | (with_reducible refine Below.drew ?_) | (with_reducible refine Below.setCell ?_ ?_ _) | go_size))) hl hk).mono ?_
  rintro e w' ⟨rfl, m, rfl⟩
  have hpl := Rl.rowsPlace_le l k
  have HPT := Lib.hid (@Rl.rowsThere_lt l k)
  obtain ⟨p, HP⟩ : ∃ p, Hid (Rl.rowsPlace l k = p) := ⟨_, Lib.hid rfl⟩
  rw [HP.out] at hpl HPT ⊢
  have hp2 : (l.length : Int) ≤ (c : Int) := by omega
  have hp4 : (p : Int) ≤ (c : Int) := by omega
  have hp5 : (0 : Int) ≤ (p : Int) := by omega
  have hp7 : p ≤ c := by omega
  cases ht : Rl.rowsThere l k with
  | true =>
    have hpt := HPT.out ht
    have HT := Lib.hid ht; clear ht
    have e1 : IntKind.i64.wrap ((p : Int) + 1) = (p : Int) + 1 := IntWalk.i64_in _ (by omega)
    have hp1 : ((p : Int) + 1) ≤ (l.length : Int) := by omega
    have hp0 : (0 : Int) ≤ (p : Int) + 1 := by omega
    have hp3 : ((p : Int) + 1).toNat = p + 1 := by omega
    have hp6 : p + 1 ≤ l.length := by omega
    have h3 : ([l.take p, [⟨k, v⟩], l.drop (p + 1)] : List (List Rl.Row)).length ≤ 1099511627776 := by simp
    have HF := Lib.hid (put_flat l ⟨k, v⟩ p (p + 1))
    have hF : ([l.take p, [⟨k, v⟩], l.drop (p + 1)] : List (List Rl.Row)).flatten.length ≤ 1099511627776 := by rw [HF.out]; simp; omega
    go_wp2_with fail
    go_region_held3 (fun w' => w'.cell? ⟨w.heap.size, 0, none⟩ = some (.string k) ∧ w'.cell? ⟨w.heap.size, 1, none⟩ = some (.string v)) (go_keep)
      (first | (go_at_call 66
                refine (list_any _ _ 3 3 _ rfl ?hp hF h3).mono ?_
                case hp => exact put_parts (hr.below (by repeat' (first | (with_reducible exact Below.refl _ _) | (with_reducible assumption) | (with_reducible refine Below.alloc ?_ ?_ _) | (with_reducible refine below_drewN ?_ _) | (with_reducible refine Below.drew ?_) | (with_reducible refine Below.setCell ?_ ?_ _) | go_size))) hc hpl hp6 (by simp) (by simp)
                rintro e w1 ⟨r, rfl, hr1⟩
                have q0 := kept_cell (p := ⟨w.heap.size, 0, none⟩) (v := .string k) hr1.below (by go_simp)
                have q1 := kept_cell (p := ⟨w.heap.size, 1, none⟩) (v := .string v) hr1.below (by go_simp)
                dsimp only))
    have e : Rl.rowsPut l ⟨k, v⟩ = ([l.take p, [⟨k, v⟩], l.drop (p + 1)] : List (List Rl.Row)).flatten := by rw [HF.out]; simp only [Rl.rowsPut, HP.out, HT.out, if_true]
    have HO : OwnRows w w1 r (Rl.rowsPut l ⟨k, v⟩) := by rw [e]; exact hr1.later (by repeat' (first | (with_reducible exact Below.refl _ _) | (with_reducible assumption) | (with_reducible refine Below.alloc ?_ ?_ _) | (with_reducible refine below_drewN ?_ _) | (with_reducible refine Below.drew ?_) | (with_reducible refine Below.setCell ?_ ?_ _) | go_size))
    clear e hr1
    go_wp2
    all_goals
      go_ret3
      exact ⟨r, congrArg (fun b => Ending.returned (.tuple #[r, .bool b, .nilIface])) HT.out.symm, HO⟩
  | false =>
    have HT := Lib.hid ht; clear ht
    have hp1 : (p : Int) ≤ (l.length : Int) := by omega
    have h3 : ([l.take p, [⟨k, v⟩], l.drop p] : List (List Rl.Row)).length ≤ 1099511627776 := by simp
    have HF := Lib.hid (put_flat l ⟨k, v⟩ p p)
    have hF : ([l.take p, [⟨k, v⟩], l.drop p] : List (List Rl.Row)).flatten.length ≤ 1099511627776 := by rw [HF.out]; simp; omega
    go_wp2_with fail
    go_region_held3 (fun w' => w'.cell? ⟨w.heap.size, 0, none⟩ = some (.string k) ∧ w'.cell? ⟨w.heap.size, 1, none⟩ = some (.string v)) (go_keep)
      (first | (go_at_call 66
                refine (list_any _ _ 3 3 _ rfl ?hp hF h3).mono ?_
                case hp => exact put_parts (hr.below (by repeat' (first | (with_reducible exact Below.refl _ _) | (with_reducible assumption) | (with_reducible refine Below.alloc ?_ ?_ _) | (with_reducible refine below_drewN ?_ _) | (with_reducible refine Below.drew ?_) | (with_reducible refine Below.setCell ?_ ?_ _) | go_size))) hc hpl hpl (by simp) (by simp)
                rintro e w1 ⟨r, rfl, hr1⟩
                have q0 := kept_cell (p := ⟨w.heap.size, 0, none⟩) (v := .string k) hr1.below (by go_simp)
                have q1 := kept_cell (p := ⟨w.heap.size, 1, none⟩) (v := .string v) hr1.below (by go_simp)
                dsimp only))
    have e : Rl.rowsPut l ⟨k, v⟩ = ([l.take p, [⟨k, v⟩], l.drop (p)] : List (List Rl.Row)).flatten := by rw [HF.out]; simp [Rl.rowsPut, HP.out, HT.out]
    have HO : OwnRows w w1 r (Rl.rowsPut l ⟨k, v⟩) := by rw [e]; exact hr1.later (by repeat' (first | (with_reducible exact Below.refl _ _) | (with_reducible assumption) | (with_reducible refine Below.alloc ?_ ?_ _) | (with_reducible refine below_drewN ?_ _) | (with_reducible refine Below.drew ?_) | (with_reducible refine Below.setCell ?_ ?_ _) | go_size))
    clear e hr1
    go_wp2
    all_goals
      go_ret3
      exact ⟨r, congrArg (fun b => Ending.returned (.tuple #[r, .bool b, .nilIface])) HT.out.symm, HO⟩
theorem part1 {l : List Rl.Row} {A : Option Addr} {c n b : Nat} {X : World} (hr : RowsR X X.heap.size A l) (hn : n = l.length) (hb : b = X.heap.size) :
    Parts (X.alloc (.cells #[.slice A n c] 46)) (X.alloc (.cells #[.slice A n c] 46)).heap.size (some ⟨b, 0, none⟩) [l] := by
  subst hb
  exact ⟨_, PartsR.of1 (heap_alloc_new X _) (by simp) hn (RowsR.alloc hr _)⟩
theorem part1c {l : List Rl.Row} {A : Option Addr} {c n b : Nat} {X : World} (hb : X.cell? ⟨b, 0, none⟩ = some (.slice A n c)) (hr : RowsR X X.heap.size A l) (hn : n = l.length) :
    Parts X X.heap.size (some ⟨b, 0, none⟩) [l] := by
  subst hn
  refine ⟨[.slice A l.length c], rfl, ⟨rfl, fun _ => ⟨_, rfl, World.block_lt_of_cell? _ _ hb, fun j u hu => ?_⟩⟩, fun i hi => ?_⟩
  · match j with
    | 0 =>
      injection hu with hu; subst hu
      exact hb
    | j + 1 => cases hu
  · match i, hi with
    | 0, _ => exact ⟨_, _, rfl, hr⟩
theorem part2 {l l' : List Rl.Row} {A A' : Option Addr} {c n c' n' b : Nat} {X : World} (hr : RowsR X X.heap.size A l) (hn : n = l.length) (hr' : RowsR X X.heap.size A' l') (hn' : n' = l'.length) (hb : b = X.heap.size) :
    Parts (X.alloc (.cells #[.slice A n c, .slice A' n' c'] 46)) (X.alloc (.cells #[.slice A n c, .slice A' n' c'] 46)).heap.size (some ⟨b, 0, none⟩) [l, l'] := by
  subst hb
  exact ⟨_, PartsR.of2 (heap_alloc_new X _) (by simp) hn hn' (RowsR.alloc hr _) (RowsR.alloc hr' _)⟩
theorem copy_any (l : List Rl.Row) (A : Option Addr) (c : Nat) (w : World) (hr : RowsR w w.heap.size A l) (hl : l.length ≤ 1099511627776) :
    Calls Tryz.prog 52 #[.slice A l.length c] w fun e w' => ∃ r, e = .returned r ∧ OwnRows w w' r l := by
  have hF : ([l] : List (List Rl.Row)).flatten.length ≤ 1099511627776 := by simpa using hl
  have h3 : ([l] : List (List Rl.Row)).length ≤ 1099511627776 := by simp
  go_enter Tryz.func52, Tryz.ntmps52
  go_wp2_with fail
  refine (list_any _ _ 1 1 _ rfl ?hp hF h3).mono ?_
  case hp => exact part1 hr rfl rfl
  rintro e w1 ⟨r, rfl, hr1⟩
  have HO : OwnRows w w1 r l := by
    have := hr1.later (w := w) (by repeat' (first | (with_reducible exact Below.refl _ _) | (with_reducible assumption) | (with_reducible refine Below.alloc ?_ ?_ _) | (with_reducible refine below_drewN ?_ _) | (with_reducible refine Below.drew ?_) | (with_reducible refine Below.setCell ?_ ?_ _) | go_size))
    simpa using this
  clear hr1
  go_wp2
  go_ret
  exact ⟨r, rfl, HO⟩
set_option maxHeartbeats 400000 in
theorem drop_any (l : List Rl.Row) (k : ByteArray) (A : Option Addr) (c : Nat) (w : World) (hr : RowsR w w.heap.size A l) (hl : RowsOk l) (hc : l.length ≤ c) (hk : k.size ≤ maxLen) :
    Calls Tryz.prog 71 #[.slice A l.length c, .string k] w fun e w' => ∃ r, e = .returned (.tuple #[r, .bool (Rl.rowsThere l k)]) ∧ OwnRows w w' r (Rl.rowsDrop l k) := by
  have hlen := hl.1
  go_enter Tryz.func71, Tryz.ntmps71
  go_wp2_with fail
  refine (find_any l k A w.heap.size c _ hr hl hk).mono ?_
  rintro e w' ⟨rfl, m, rfl⟩
  have hpl := Rl.rowsPlace_le l k
  have HPT := Lib.hid (@Rl.rowsThere_lt l k)
  obtain ⟨p, HP⟩ : ∃ p, Hid (Rl.rowsPlace l k = p) := ⟨_, Lib.hid rfl⟩
  rw [HP.out] at hpl HPT ⊢
  have hp2 : (l.length : Int) ≤ (c : Int) := by omega
  have hp4 : (p : Int) ≤ (c : Int) := by omega
  have hp5 : (0 : Int) ≤ (p : Int) := by omega
  have hp7 : p ≤ c := by omega
  cases ht : Rl.rowsThere l k with
  | true =>
    have hpt := HPT.out ht
    have HT := Lib.hid ht; clear ht
    have e1 : IntKind.i64.wrap ((p : Int) + 1) = (p : Int) + 1 := IntWalk.i64_in _ (by omega)
    have hp1 : ((p : Int) + 1) ≤ (l.length : Int) := by omega
    have hp0 : (0 : Int) ≤ (p : Int) + 1 := by omega
    have hp3 : ((p : Int) + 1).toNat = p + 1 := by omega
    have hp6 : p + 1 ≤ l.length := by omega
    have h3 : ([l.take p, l.drop (p + 1)] : List (List Rl.Row)).length ≤ 1099511627776 := by simp
    have hF : ([l.take p, l.drop (p + 1)] : List (List Rl.Row)).flatten.length ≤ 1099511627776 := by simp; omega
    go_wp2_with fail
    go_region_held3 (fun w' => 0 ≤ w'.heap.size) (exact Nat.zero_le _)
      (first | (go_at_call 66
                refine (list_any _ _ 2 2 _ rfl ?hp hF h3).mono ?_
                case hp => exact part2 ((hr.below (by repeat' (first | (with_reducible exact Below.refl _ _) | (with_reducible assumption) | (with_reducible refine Below.alloc ?_ ?_ _) | (with_reducible refine below_drewN ?_ _) | (with_reducible refine Below.drew ?_) | (with_reducible refine Below.setCell ?_ ?_ _) | go_size))).take p) (by rw [List.length_take]; omega) ((hr.below (by repeat' (first | (with_reducible exact Below.refl _ _) | (with_reducible assumption) | (with_reducible refine Below.alloc ?_ ?_ _) | (with_reducible refine below_drewN ?_ _) | (with_reducible refine Below.drew ?_) | (with_reducible refine Below.setCell ?_ ?_ _) | go_size))).drop (p + 1) hp6 hc) (by rw [List.length_drop]) (by simp)
                rintro e w1 ⟨r, rfl, hr1⟩
                dsimp only))
    have e : Rl.rowsDrop l k = ([l.take p, l.drop (p + 1)] : List (List Rl.Row)).flatten := by simp [Rl.rowsDrop, HP.out, HT.out]
    have HO : OwnRows w w1 r (Rl.rowsDrop l k) := by rw [e]; exact hr1.later (by repeat' (first | (with_reducible exact Below.refl _ _) | (with_reducible assumption) | (with_reducible refine Below.alloc ?_ ?_ _) | (with_reducible refine below_drewN ?_ _) | (with_reducible refine Below.drew ?_) | (with_reducible refine Below.setCell ?_ ?_ _) | go_size))
    clear e hr1
    go_wp2
    all_goals
      go_ret2
      exact ⟨r, congrArg (fun b => Ending.returned (.tuple #[r, .bool b])) HT.out.symm, HO⟩
  | false =>
    have HT := Lib.hid ht; clear ht
    have h3 : ([l] : List (List Rl.Row)).length ≤ 1099511627776 := by simp
    have hF : ([l] : List (List Rl.Row)).flatten.length ≤ 1099511627776 := by simpa using hlen
    go_wp2_with fail
    refine (list_any _ _ 1 1 _ rfl ?hp hF h3).mono ?_
    case hp => exact part1 (hr.below (by repeat' (first | (with_reducible exact Below.refl _ _) | (with_reducible assumption) | (with_reducible refine Below.alloc ?_ ?_ _) | (with_reducible refine below_drewN ?_ _) | (with_reducible refine Below.drew ?_) | (with_reducible refine Below.setCell ?_ ?_ _) | go_size))) rfl (by simp)
    rintro e w1 ⟨r, rfl, hr1⟩
    have HO : OwnRows w w1 r (Rl.rowsDrop l k) := by
      have := hr1.later (w := w) (by repeat' (first | (with_reducible exact Below.refl _ _) | (with_reducible assumption) | (with_reducible refine Below.alloc ?_ ?_ _) | (with_reducible refine below_drewN ?_ _) | (with_reducible refine Below.drew ?_) | (with_reducible refine Below.setCell ?_ ?_ _) | go_size))
      simpa [Rl.rowsDrop, HT.out] using this
    clear hr1
    go_wp2
    go_ret2
    exact ⟨r, congrArg (fun b => Ending.returned (.tuple #[r, .bool b])) HT.out.symm, HO⟩
set_option maxHeartbeats 1000000 in
theorem cut_any (l : List Rl.Row) (k : ByteArray) (A : Option Addr) (c : Nat) (w : World) (hr : RowsR w w.heap.size A l) (hl : RowsOk l) (hc : l.length ≤ c) (hk : k.size ≤ maxLen) :
    Calls Tryz.prog 73 #[.slice A l.length c, .string k] w fun e w' => ∃ r r', e = .returned (.tuple #[r, r']) ∧ OwnRows w w' r (l.take (Rl.rowsPlace l k)) ∧ OwnRows w w' r' (l.drop (Rl.rowsPlace l k)) := by
  have hlen := hl.1
  go_enter Tryz.func73, Tryz.ntmps73
  go_wp2_with fail
  refine (place_any l k A w.heap.size c _ hr hl hk).mono ?_
  rintro e w' ⟨rfl, m, rfl⟩
  have hpl := Rl.rowsPlace_le l k
  obtain ⟨p, HP⟩ : ∃ p, Hid (Rl.rowsPlace l k = p) := ⟨_, Lib.hid rfl⟩
  rw [HP.out] at hpl ⊢
  have hp1 : (p : Int) ≤ (l.length : Int) := by omega
  have hp2 : (l.length : Int) ≤ (c : Int) := by omega
  have hp4 : (p : Int) ≤ (c : Int) := by omega
  have hp5 : (0 : Int) ≤ (p : Int) := by omega
  have hp7 : p ≤ c := by omega
  have htk : Hid (p = (l.take p).length) := Lib.hid (by rw [List.length_take]; omega)
  have hdk : Hid (l.length - p = (l.drop p).length) := Lib.hid (by rw [List.length_drop])
  have h3 : ([l.take p] : List (List Rl.Row)).length ≤ 1099511627776 := by simp
  have hF : ([l.take p] : List (List Rl.Row)).flatten.length ≤ 1099511627776 := by simp; omega
  have h3' : ([l.drop p] : List (List Rl.Row)).length ≤ 1099511627776 := by simp
  have hF' : ([l.drop p] : List (List Rl.Row)).flatten.length ≤ 1099511627776 := by simp; omega
  go_wp2_with fail
  go_region_held3 (fun w' => 0 ≤ w'.heap.size) (exact Nat.zero_le _)
    (first
      | (go_at_call 66
         refine (list_any _ _ 1 1 _ rfl ?_ hF h3).mono ?_
         focus (refine part1c (A := A) (n := p) (c := c) ?_ ((hr.below (by repeat' (first | (with_reducible exact Below.refl _ _) | (with_reducible assumption) | (with_reducible refine Below.alloc ?_ ?_ _) | (with_reducible refine below_drewN ?_ _) | (with_reducible refine Below.drew ?_) | (with_reducible refine Below.setCell ?_ ?_ _) | go_size))).take p) htk.out; focus ((try simp only [alloc_drewN]); (try simp only [alloc_drew]); go_simp; done))
         rintro e w1 ⟨r, rfl, hr1⟩
         have hb1 : Below w.heap.size w w1 := below_to (by repeat' (first | (with_reducible exact Below.refl _ _) | (with_reducible assumption) | (with_reducible refine Below.alloc ?_ ?_ _) | (with_reducible refine below_drewN ?_ _) | (with_reducible refine Below.drew ?_) | (with_reducible refine Below.setCell ?_ ?_ _) | go_size)) hr1.below
         have hs1 := hb1.size
         have HO1 : OwnRows w w1 r (l.take p) := by simpa using hr1.later (w := w) (by repeat' (first | (with_reducible exact Below.refl _ _) | (with_reducible assumption) | (with_reducible refine Below.alloc ?_ ?_ _) | (with_reducible refine below_drewN ?_ _) | (with_reducible refine Below.drew ?_) | (with_reducible refine Below.setCell ?_ ?_ _) | go_size))
         have hq1 := hr1.below
         clear hr1
         dsimp only)
      | (go_at_call 66
         refine (list_any _ _ 1 1 _ rfl ?_ hF' h3').mono ?_
         focus (first
           | (refine part1c (n := l.length - p) (c := c - p) ?_ ((hr.below (by repeat' (first | (with_reducible exact Below.refl _ _) | (with_reducible assumption) | (with_reducible refine Below.alloc ?_ ?_ _) | (with_reducible refine below_drewN ?_ _) | (with_reducible refine Below.drew ?_) | (with_reducible refine Below.setCell ?_ ?_ _) | go_size))).drop p hpl hc) hdk.out; focus ((try simp only [alloc_drewN]); (try simp only [alloc_drew]); go_simp; done))
           | (refine part1c (n := l.length - p) (c := c - p) (kept_cell hq1 ?_) ((hr.below (by repeat' (first | (with_reducible exact Below.refl _ _) | (with_reducible assumption) | (with_reducible refine Below.alloc ?_ ?_ _) | (with_reducible refine below_drewN ?_ _) | (with_reducible refine Below.drew ?_) | (with_reducible refine Below.setCell ?_ ?_ _) | go_size))).drop p hpl hc) hdk.out; focus ((try simp only [alloc_drewN]); (try simp only [alloc_drew]); go_simp; done)))
         rintro e w2 ⟨r', rfl, hr2⟩
         have HO2 : OwnRows w w2 r' (l.drop p) := by simpa using hr2.later (w := w) (by repeat' (first | (with_reducible exact Below.refl _ _) | (with_reducible assumption) | (with_reducible refine Below.alloc ?_ ?_ _) | (with_reducible refine below_drewN ?_ _) | (with_reducible refine Below.drew ?_) | (with_reducible refine Below.setCell ?_ ?_ _) | go_size))
         have HO1' := HO1.keep (below_to (by repeat' (first | (with_reducible exact Below.refl _ _) | (with_reducible assumption) | (with_reducible refine Below.alloc ?_ ?_ _) | (with_reducible refine below_drewN ?_ _) | (with_reducible refine Below.drew ?_) | (with_reducible refine Below.setCell ?_ ?_ _) | go_size)) hr2.below)
         clear hr2 HO1 hb1 hs1 hq1
         dsimp only))
  all_goals
    go_wp2
    all_goals
      go_ret2
      exact ⟨r, r', rfl, by rw [HP.out]; exact HO1', by rw [HP.out]; exact HO2⟩
end Go.Proofs.YthidclcliflhkaaGreat
end
section
open Go Go.RowKit
namespace Go.Proofs.YthidclcliflhkaaGreat
open Rl (lt cmp common keyOk inSpan)

set_option maxHeartbeats 1000000 in
theorem join_any (a b : List Rl.Row) (A A' : Option Addr) (c c' : Nat) (w : World) (hr : RowsR w w.heap.size A a) (hr' : RowsR w w.heap.size A' b) (hl : RowsOk a) (hl' : RowsOk b)
    (hlen : a.length + b.length ≤ 1099511627776) (hj : Rl.rowsJoinOk a b = true) :
    Calls Tryz.prog 74 #[.slice A a.length c, .slice A' b.length c'] w fun e w' => ∃ r, e = .returned (.tuple #[r, .nilIface]) ∧ OwnRows w w' r (a ++ b) := by
  have hF : ([a, b] : List (List Rl.Row)).flatten.length ≤ 1099511627776 := by simpa using hlen
  have h3 : ([a, b] : List (List Rl.Row)).length ≤ 1099511627776 := by simp
  by_cases ha : 0 < a.length
  · by_cases hb : 0 < b.length
    · obtain ⟨na, hna⟩ : ∃ na, Hid (a.length = na + 1) := ⟨a.length - 1, Lib.hid (by omega)⟩
      have hlast : na < a.length := by rw [hna.out]; omega
      obtain ⟨ad, rfl, hb1, hc1, hc2⟩ := hr.at_ hlast
      obtain ⟨bd, rfl, hb2, hc3, hc4⟩ := hr'.at_ hb
      have hc3' : w.cell? bd = some (.string b[0].key) := by simpa [Addr.add] using hc3
      have hk1 := hl.key hlast
      have hk2 := hl'.key hb
      have hcmp : ¬ (0 ≤ cmp a[na].key b[0].key) := by
        have e : lt a[na].key b[0].key = true := by
          have := hj
          unfold Rl.rowsJoinOk at this
          have e1 : a.getLast? = some a[na] := by rw [List.getLast?_eq_getElem?, hna.out, List.getElem?_eq_getElem (by simpa using hlast)]; simp
          have e2 : b.head? = some b[0] := by rw [List.head?_eq_getElem?, List.getElem?_eq_getElem hb]
          rw [e1, e2] at this
          exact this
        have := Rl.cmp_lt.2 e; omega
      have hcmp' : decide (0 ≤ cmp a[na].key b[0].key) = false := by simpa using hcmp
      go_enter Tryz.func74, Tryz.ntmps74
      rw [hna.out]
      have ea : (0 : Int) < ((na + 1 : Nat) : Int) := by omega
      have eb : (0 : Int) < (b.length : Int) := by omega
      have hle := hl.1
      have hna1 : na ≤ 1099511627776 := by have := hna.out; omega
      have e1 : IntKind.i64.wrap (na : Int) = (na : Int) := IntWalk.i64_in _ (by omega)
      have e2 : (na : Int) < (na : Int) + 1 := by omega
      have e3 : (0 : Int) ≤ (na : Int) := by omega
      go_wp2_with fail
      go_quiet ((go_at_call 72; refine Calls.quiet_of (compare_any _ _ _ hk1 hk2)))
      go_wp2_with fail
      refine (list_any _ _ 2 2 _ rfl ?_ hF h3).mono ?_
      · exact part2 (hr.below (by repeat' (first | (with_reducible exact Below.refl _ _) | (with_reducible assumption) | (with_reducible refine Below.alloc ?_ ?_ _) | (with_reducible refine below_drewN ?_ _) | (with_reducible refine Below.drew ?_) | (with_reducible refine Below.setCell ?_ ?_ _) | go_size))) hna.out.symm (hr'.below (by repeat' (first | (with_reducible exact Below.refl _ _) | (with_reducible assumption) | (with_reducible refine Below.alloc ?_ ?_ _) | (with_reducible refine below_drewN ?_ _) | (with_reducible refine Below.drew ?_) | (with_reducible refine Below.setCell ?_ ?_ _) | go_size))) rfl (by simp)
      rintro e w1 ⟨r, rfl, hr1⟩
      have HO : OwnRows w w1 r (a ++ b) := by
        have := hr1.later (w := w) (by repeat' (first | (with_reducible exact Below.refl _ _) | (with_reducible assumption) | (with_reducible refine Below.alloc ?_ ?_ _) | (with_reducible refine below_drewN ?_ _) | (with_reducible refine Below.drew ?_) | (with_reducible refine Below.setCell ?_ ?_ _) | go_size))
        simpa using this
      clear hr1
      go_wp2
      go_ret2
      exact ⟨r, rfl, HO⟩
    · have hb0 : b = [] := List.eq_nil_of_length_eq_zero (by omega)
      subst hb0
      have ea : (0 : Int) < (a.length : Int) := by omega
      go_enter Tryz.func74, Tryz.ntmps74
      go_wp2_with fail
      go_quiet (fail)
      go_wp2_with fail
      refine (list_any _ _ 2 2 _ rfl ?_ hF h3).mono ?_
      · exact part2 (hr.below (by repeat' (first | (with_reducible exact Below.refl _ _) | (with_reducible assumption) | (with_reducible refine Below.alloc ?_ ?_ _) | (with_reducible refine below_drewN ?_ _) | (with_reducible refine Below.drew ?_) | (with_reducible refine Below.setCell ?_ ?_ _) | go_size))) rfl (hr'.below (by repeat' (first | (with_reducible exact Below.refl _ _) | (with_reducible assumption) | (with_reducible refine Below.alloc ?_ ?_ _) | (with_reducible refine below_drewN ?_ _) | (with_reducible refine Below.drew ?_) | (with_reducible refine Below.setCell ?_ ?_ _) | go_size))) rfl (by simp)
      rintro e w1 ⟨r, rfl, hr1⟩
      have HO : OwnRows w w1 r (a ++ []) := by
        have := hr1.later (w := w) (by repeat' (first | (with_reducible exact Below.refl _ _) | (with_reducible assumption) | (with_reducible refine Below.alloc ?_ ?_ _) | (with_reducible refine below_drewN ?_ _) | (with_reducible refine Below.drew ?_) | (with_reducible refine Below.setCell ?_ ?_ _) | go_size))
        simpa using this
      clear hr1
      go_wp2
      go_ret2
      exact ⟨r, rfl, HO⟩
  · have ha0 : a = [] := List.eq_nil_of_length_eq_zero (by omega)
    subst ha0
    go_enter Tryz.func74, Tryz.ntmps74
    go_wp2_with fail
    go_quiet (fail)
    go_wp2_with fail
    refine (list_any _ _ 2 2 _ rfl ?_ hF h3).mono ?_
    · exact part2 (hr.below (by repeat' (first | (with_reducible exact Below.refl _ _) | (with_reducible assumption) | (with_reducible refine Below.alloc ?_ ?_ _) | (with_reducible refine below_drewN ?_ _) | (with_reducible refine Below.drew ?_) | (with_reducible refine Below.setCell ?_ ?_ _) | go_size))) rfl (hr'.below (by repeat' (first | (with_reducible exact Below.refl _ _) | (with_reducible assumption) | (with_reducible refine Below.alloc ?_ ?_ _) | (with_reducible refine below_drewN ?_ _) | (with_reducible refine Below.drew ?_) | (with_reducible refine Below.setCell ?_ ?_ _) | go_size))) rfl (by simp)
    rintro e w1 ⟨r, rfl, hr1⟩
    have HO : OwnRows w w1 r ([] ++ b) := by
      have := hr1.later (w := w) (by repeat' (first | (with_reducible exact Below.refl _ _) | (with_reducible assumption) | (with_reducible refine Below.alloc ?_ ?_ _) | (with_reducible refine below_drewN ?_ _) | (with_reducible refine Below.drew ?_) | (with_reducible refine Below.setCell ?_ ?_ _) | go_size))
      simpa using this
    clear hr1
    go_wp2
    go_ret2
    exact ⟨r, rfl, HO⟩
end Go.Proofs.YthidclcliflhkaaGreat
end
