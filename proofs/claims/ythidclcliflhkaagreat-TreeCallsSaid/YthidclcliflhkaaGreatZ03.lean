/- What rows' functions compute: contracts, the third part: Take. What rows' functions compute: contracts, the fourth part: Right, Halve; bkey.Between. What leaf's functions compute: contracts. What leaf.up computes: contracts, the fourth part. -/
import Derived.Test.YthidclcliflhkaaGreatZ02
import Derived.Deep.DeepMust
section
open Go Go.RowKit
namespace Go.Proofs.YthidclcliflhkaaGreat
open Rl (lt cmp common keyOk inSpan)

theorem row_new {k v : ByteArray} {b : Nat} {X : World} (hb : b = X.heap.size) :
    Reads (X.alloc (.cells #[.string k, .string v] 50)) (X.alloc (.cells #[.string k, .string v] 50)).heap.size 2 (some ⟨b, 0, none⟩) 1 [.string k, .string v] := by
  subst hb
  exact RowsR.one (r := ⟨k, v⟩) (heap_alloc_new X _) rfl (by simp)
theorem ownsRow_set {w : World} {base : Nat} {e : TypeId} {size n : Nat} {v : Value} {xs : List Value} (h : w.ownsRow base e size v n xs) {p : Addr} (hp : p.block < base) (u : Value) : (w.setCell p u).ownsRow base e size v n xs := by
  refine ⟨h.1, ?_⟩
  rcases h.2 with h0 | ⟨g, cap, cur, rfl, hg, hb, rest⟩
  · exact .inl h0
  · exact .inr ⟨g, cap, cur, rfl, hg, (Below.heap_setCell w p u g (by omega)).trans hb, rest⟩
theorem row_one (k v : ByteArray) : ∀ u ∈ ([.string k, .string v] : List Value), u.oneCell' = true := rowCells_one [⟨k, v⟩]
def Took (inn : Bool) (k v : ByteArray) (bo base n : Nat) (xs : List Value) (w : World) (e : Ending) (w' : World) : Prop :=
  ∃ (ov' : Value), e = .returned (.bool true) ∧ w'.cell? ⟨bo, 0, none⟩ = some ov' ∧ w'.ownsRow base 50 2 ov' (if inn then n + 1 else n) (if inn then xs ++ [.string k, .string v] else xs) ∧
    w.heap.size ≤ w'.heap.size ∧ w'.os = w.os ∧ w'.tape = w.tape ∧ w'.output = w.output ∧ w'.frozen? ⟨bo, 0, none⟩ = false ∧ ∀ b, b < base → b ≠ bo → w'.heap[b]? = w.heap[b]?
set_option maxRecDepth 100000 in
set_option maxHeartbeats 1000000 in
theorem take1_any (k v low high : ByteArray) (unb inn : Bool) (bs bo bl base n : Nat) (ov : Value) (xs : List Value) (w : World) (hk : k.size ≤ maxLen) (hlo : low.size ≤ maxLen) (hhi : high.size ≤ maxLen)
    (s0 : w.cell? ⟨bs, 0, none⟩ = some (.string low)) (s1 : w.cell? ⟨bs, 1, none⟩ = some (.string high)) (s2 : w.cell? ⟨bs, 2, none⟩ = some (.bool unb))
    (o0 : w.cell? ⟨bo, 0, none⟩ = some ov) (fo : w.frozen? ⟨bo, 0, none⟩ = false) (l0 : w.cell? ⟨bl, 0, none⟩ = some (.int .i64 0))
    (hown : w.ownsRow base 50 2 ov n xs) (hbase : base ≤ w.heap.size) (hbo : bo < base) (hbl : bl < base) (hlo' : bl ≠ bo) (hn : n ≤ 1099511627776) (hin : inSpan low high unb k = inn) :
    Calls Tryz.prog 89 #[.agg #[.string k, .string v], .pointer (some ⟨bs, 0, none⟩), .pointer (some ⟨bo, 0, none⟩), .pointer (some ⟨bl, 0, none⟩)] w (Took inn k v bo base n xs w) := by
  obtain ⟨i0, hi0, hz0, hz1, hz2⟩ := info_parts row_info
  have hbs1 := World.block_lt_of_cell? _ _ s0
  have hbo1 := World.block_lt_of_cell? _ _ o0
  have hbl1 := World.block_lt_of_cell? _ _ l0
  simp only at hbs1 hbo1 hbl1
  have HO := Lib.hid hown; clear hown
  have HI := Lib.hid hin; clear hin
  go_enter Tryz.func89, Tryz.ntmps89
  go_wp2_with fail
  refine (in_any _ _ _ _ _ hlo hhi hk).mono ?_
  rintro e w' ⟨rfl, m, rfl⟩
  rw [HI.out]
  cases inn with
  | true =>
    go_wp2_with (at_builtin; go_must (
                 refine wpList_append_any _ rfl (.tmp 15) (.tmp 17) _ rfl base 50 i0 _ 2 32 Tryz.underlying46 hi0 hz0 hz1 hz2 rfl (by omega) _ _ _ rfl
                   (ownsRow_keep HO.out (by repeat' (first | (with_reducible exact Below.refl _ _) | (with_reducible assumption) | (with_reducible refine Below.alloc ?_ ?_ _) | (with_reducible refine below_drewN ?_ _) | (with_reducible refine Below.drew ?_) | (with_reducible refine Below.setCell ?_ ?_ _) | go_size))) _ _ _ _ _ rfl (row_new (by simp)) (row_one k v) (by simp only [maxLen]; omega) (by omega) (by simp; omega) ?_
                 intro v1 w1 hown1 hg1 hat1
                 obtain ⟨A1, c1, rfl, _⟩ := own_form hown1
                 have q0 : w1.cell? ⟨bo, 0, none⟩ = some ov := hg1.cell (by (try simp only [alloc_drewN]); (try simp only [alloc_drew]); go_simp) (fun e => by have : base ≤ bo := (HO.out.lt _ e.symm).1; omega)
                 have q1 : w1.cell? ⟨bl, 0, none⟩ = some (.int .i64 0) := hg1.cell (by (try simp only [alloc_drewN]); (try simp only [alloc_drew]); go_simp) (fun e => by have : base ≤ bl := (HO.out.lt _ e.symm).1; omega)
                 have q2 : w1.frozen? ⟨bo, 0, none⟩ = false := (World.frozen?_of_block (hg1.block bo (by simp; omega) (fun e => by have : base ≤ bo := (HO.out.lt _ e.symm).1; omega))).trans (by (try simp only [alloc_drewN]); (try simp only [alloc_drew]); go_simp)
                 have HN := Lib.hid hown1
                 clear hown1 hat1))
    go_ret
    refine ⟨.slice A1 (n + 1) c1, rfl, ?_, ?_, ?_, ?_, ?_, ?_, ?_, ?_⟩
    · exact (by (try simp only [alloc_drewN]); (try simp only [alloc_drew]); go_simp)
    · exact ownsRow_set HN.out (p := ⟨bo, 0, none⟩) hbo _
    · have := hg1.size; simp at this ⊢; omega
    · exact hg1.os
    · exact hg1.tape
    · exact hg1.output
    · exact (by (try simp only [alloc_drewN]); (try simp only [alloc_drew]); go_simp)
    · intro b hb hne
      rw [Below.heap_setCell _ _ _ _ hne, hg1.block b (by simp; omega) (fun e => by have : base ≤ b := (HO.out.lt _ e.symm).1; omega)]
      exact (Below.heap_alloc _ _ b (by simp; omega)).trans (Below.heap_alloc _ _ b (by omega))
  | false =>
    go_wp2
    go_ret
    refine ⟨ov, rfl, ?_, ?_, ?_, rfl, rfl, rfl, ?_, ?_⟩
    · exact (by (try simp only [alloc_drewN]); (try simp only [alloc_drew]); go_simp)
    · exact ownsRow_keep HO.out (by repeat' (first | (with_reducible exact Below.refl _ _) | (with_reducible assumption) | (with_reducible refine Below.alloc ?_ ?_ _) | (with_reducible refine below_drewN ?_ _) | (with_reducible refine Below.drew ?_) | (with_reducible refine Below.setCell ?_ ?_ _) | go_size))
    · simp
    · exact (by (try simp only [alloc_drewN]); (try simp only [alloc_drew]); go_simp)
    · intro b hb hne
      exact Below.heap_alloc w _ b (by omega)

def Way (l : List Rl.Row) (rev : Bool) : List Rl.Row := if rev then l.reverse else l
theorem way_len (l : List Rl.Row) (rev : Bool) : (Way l rev).length = l.length := by unfold Way; split <;> simp
theorem way_at (l : List Rl.Row) (rev : Bool) (k : Nat) (h : k < l.length) : (Way l rev)[k]'(by rw [way_len]; exact h) = l[if rev then l.length - 1 - k else k]'(by split <;> omega) := by
  cases rev
  · simp [Way]
  · simp [Way, List.getElem_reverse]
theorem filter_take_succ (l : List Rl.Row) (p : Rl.Row → Bool) (k : Nat) (h : k < l.length) : (l.take (k + 1)).filter p = (l.take k).filter p ++ (if p l[k] then [l[k]] else []) := by
  rw [List.take_succ_eq_append_getElem h, List.filter_append]
  congr 1
  simp only [List.filter_cons, List.filter_nil]
theorem took_rows {w : World} {base : Nat} {ov : Value} {xs ys : List Rl.Row} {r : Rl.Row} {inn : Bool} {p : Rl.Row → Bool} (hp : p r = inn) (h : w.ownsRow base 50 2 ov (if inn then xs.length + 1 else xs.length) (if inn then rowCells xs ++ [.string r.key, .string r.value] else rowCells xs))
    (hs : ys = xs ++ (if p r then [r] else [])) : w.ownsRow base 50 2 ov ys.length (rowCells ys) := by
  subst hp; subst hs
  cases e : p r with
  | true => rw [e] at h; simpa [rowCells_append, rowCells] using h
  | false => rw [e] at h; simpa using h
set_option maxRecDepth 100000 in
set_option maxHeartbeats 2000000 in
theorem take_any (l : List Rl.Row) (A : Option Addr) (c : Nat) (low high : ByteArray) (unb rev : Bool) (w : World) (hr : RowsR w w.heap.size A l) (hl : RowsOk l) (hlo : low.size ≤ maxLen) (hhi : high.size ≤ maxLen) :
    Calls Tryz.prog 68 #[.slice A l.length c, .agg #[.string low, .string high, .bool unb], .int .i64 0, .bool rev] w fun e w' =>
      ∃ r, e = .returned r ∧ OwnRows w w' r ((Way l rev).filter fun x => inSpan low high unb x.key) := by
  have hlen := hl.1
  go_enter Tryz.func68, Tryz.ntmps68
  go_wp2
  go_loopw [11, 12, 16] (fun _ _ i wr => ∃ (k : Nat) (ov : Value), k ≤ l.length ∧ i = .int .i64 k ∧ wr.cell? ⟨w.heap.size + 1 + 1, 0, none⟩ = some ov ∧
      wr.ownsRow (w.heap.size + 3) 50 2 ov (((Way l rev).take k).filter fun x => inSpan low high unb x.key).length (rowCells (((Way l rev).take k).filter fun x => inSpan low high unb x.key)) ∧
      w.heap.size + 3 ≤ wr.heap.size ∧ wr.os = w.os ∧ wr.tape = w.tape ∧ wr.output = w.output ∧ Hid (∀ b, b < w.heap.size + 3 → b ≠ w.heap.size + 1 + 1 → wr.heap[b]? = (((w.alloc (.cells #[.string low, .string high, .bool unb] 139)).alloc (.cells #[.int .i64 0] 3)).alloc (.cells #[.slice none 0 0] 46)).heap[b]?) ∧ wr.frozen? ⟨w.heap.size + 1 + 1, 0, none⟩ = false)
    (fun _ _ i _ => l.length - (intOf i).toNat)
  case atStart =>
    refine ⟨0, .slice none 0 0, Nat.zero_le _, rfl, (by (try simp only [alloc_drewN]); (try simp only [alloc_drew]); go_simp), World.ownsRow_nil _ _ _ _, by simp, rfl, rfl, rfl, Lib.hid (fun _ _ _ => rfl), (by (try simp only [alloc_drewN]); (try simp only [alloc_drew]); go_simp)⟩
  case round =>
    obtain ⟨k, ov, hk, rfl, hov, hown, hsz, hos, htp, hou, HB, hfz⟩ := hrel
    have hB : Below w.heap.size w wr := ⟨hos, htp, hou, by omega, fun b hb => (HB.out b (by omega) (by omega)).trans
      ((Below.heap_alloc _ _ b (by simp; omega)).trans ((Below.heap_alloc _ _ b (by simp; omega)).trans (Below.heap_alloc _ _ b (by omega))))⟩
    have s0 : wr.cell? ⟨w.heap.size, 0, none⟩ = some (.string low) := (World.cell?_of_block (HB.out w.heap.size (by omega) (by omega))).trans (by (try simp only [alloc_drewN]); (try simp only [alloc_drew]); go_simp)
    have s1 : wr.cell? ⟨w.heap.size, 1, none⟩ = some (.string high) := (World.cell?_of_block (HB.out w.heap.size (by omega) (by omega))).trans (by (try simp only [alloc_drewN]); (try simp only [alloc_drew]); go_simp)
    have s2 : wr.cell? ⟨w.heap.size, 2, none⟩ = some (.bool unb) := (World.cell?_of_block (HB.out w.heap.size (by omega) (by omega))).trans (by (try simp only [alloc_drewN]); (try simp only [alloc_drew]); go_simp)
    have l0 : wr.cell? ⟨w.heap.size + 1, 0, none⟩ = some (.int .i64 0) := (World.cell?_of_block (HB.out (w.heap.size + 1) (by omega) (by omega))).trans (by (try simp only [alloc_drewN]); (try simp only [alloc_drew]); go_simp)
    have HOW := Lib.hid hown; clear hown
    by_cases h1 : k < l.length
    · obtain ⟨j, hj, HJ⟩ : ∃ j, j < l.length ∧ Hid (j = if rev then l.length - 1 - k else k) := ⟨if rev then l.length - 1 - k else k, by split <;> omega, Lib.hid rfl⟩
      obtain ⟨ad, rfl, hb, hc1, hc2⟩ := RowsR.at_ (w := wr) (Reads.below hr hB) hj
      have hkk := hl.key hj
      have hc2' : wr.cell? { block := (ad.add (j * 2)).block, off := (ad.add (j * 2)).off + 1 } = some (.string l[j].value) := by
        have := hc2; rw [← add_of_add] at this; exact this
      have HS := Lib.hid (filter_take_succ (Way l rev) (fun x => inSpan low high unb x.key) k (by rw [way_len]; exact h1))
      have HE : Hid ((Way l rev)[k]'(by rw [way_len]; exact h1) = l[j]) := Lib.hid (by
        rw [way_at l rev k h1]; congr 1; exact HJ.out.symm)
      rw [HE.out] at HS
      have hfl : (((Way l rev).take k).filter fun x => inSpan low high unb x.key).length ≤ 1099511627776 := by
        refine Nat.le_trans (List.length_filter_le _ _) (Nat.le_trans (List.length_take_le _ _) ?_); omega
      cases rev with
      | true =>
        have e1 : IntKind.i64.wrap ((l.length : Int) - 1) = (l.length : Int) - 1 := IntWalk.i64_in _ (by omega)
        have e2 : IntKind.i64.wrap ((l.length : Int) - 1 - (k : Int)) = (j : Int) := by
          have e : (l.length : Int) - 1 - (k : Int) = (j : Int) := by have := HJ.out; simp at this; omega
          rw [e]; exact IntWalk.i64_in _ (by omega)
        have e3 : (j : Int) < (l.length : Int) := by omega
        have e4 : (0 : Int) ≤ (j : Int) := by omega
        obtain ⟨inn, hin⟩ : ∃ inn, Hid (inSpan low high unb l[j].key = inn) := ⟨_, Lib.hid rfl⟩
        go_wp2_with fail
        refine (take1_any _ _ low high unb inn _ _ _ (w.heap.size + 3) _ ov _ _ hkk hlo hhi s0 s1 s2 hov hfz l0 HOW.out hsz (by omega) (by omega) (by omega) hfl hin.out).mono ?_
        rintro e w1 ⟨ov', rfl, h1', h2', h3', h4', h5', h6', h8', h7'⟩
        have H2 := Lib.hid (took_rows (p := fun x => inSpan low high unb x.key) hin.out h2' HS.out)
        have H7 := Lib.hid h7'
        clear h2' h7'
        go_wp2
        exact ⟨⟨k + 1, ov', by omega, by go_num, h1', H2.out, by omega, h4'.trans hos, h5'.trans htp, h6'.trans hou, Lib.hid (fun b hb hne => (H7.out b hb hne).trans (HB.out b hb hne)), h8'⟩, by simp [intOf]; omega⟩
      | false =>
        obtain rfl : j = k := HJ.out
        have e3 : (j : Int) < (l.length : Int) := by omega
        have e4 : (0 : Int) ≤ (j : Int) := by omega
        obtain ⟨inn, hin⟩ : ∃ inn, Hid (inSpan low high unb l[j].key = inn) := ⟨_, Lib.hid rfl⟩
        go_wp2_with fail
        refine (take1_any _ _ low high unb inn _ _ _ (w.heap.size + 3) _ ov _ _ hkk hlo hhi s0 s1 s2 hov hfz l0 HOW.out hsz (by omega) (by omega) (by omega) hfl hin.out).mono ?_
        rintro e w1 ⟨ov', rfl, h1', h2', h3', h4', h5', h6', h8', h7'⟩
        have H2 := Lib.hid (took_rows (p := fun x => inSpan low high unb x.key) hin.out h2' HS.out)
        have H7 := Lib.hid h7'
        clear h2' h7'
        go_wp2
        exact ⟨⟨j + 1, ov', by omega, by go_num, h1', H2.out, by omega, h4'.trans hos, h5'.trans htp, h6'.trans hou, Lib.hid (fun b hb hne => (H7.out b hb hne).trans (HB.out b hb hne)), h8'⟩, by simp [intOf]; omega⟩
    · obtain rfl : k = l.length := by omega
      have hall : (Way l rev).take l.length = Way l rev := by rw [List.take_of_length_le]; rw [way_len]; exact Nat.le_refl _
      have HA := Lib.hid hall
      clear hall
      go_wp2
      obtain ⟨A1, c1, hov1, _⟩ := own_form HOW.out
      go_ret
      refine ⟨ov, rfl, A1, c1, ?_, ?_, hB⟩
      · rw [HA.out] at hov1; exact hov1
      · have := ownsRow_base (base' := w.heap.size) HOW.out (by omega)
        rw [hov1, HA.out] at this; exact this
end Go.Proofs.YthidclcliflhkaaGreat
end
section
open Go Go.RowKit
namespace Go.Proofs.YthidclcliflhkaaGreat
open Rl (lt cmp common keyOk inSpan)

/-- 'rows.Right', of rows that may be: yes. -/
theorem rowsRight_at : ∀ (l : List Rl.Row), Rl.rowsRight l = true → ∀ (k : Nat) (h : k < l.length), l[k].fits = true ∧ ∀ (h' : k + 1 < l.length), lt l[k].key l[k + 1].key = true
  | [], _, k, h => by simp at h
  | [r], h, 0, _ => by
    simp only [Rl.rowsRight, Bool.and_true] at h
    exact ⟨h, fun h' => by simp at h'⟩
  | [r], h, k + 1, hk => by simp at hk
  | r :: r' :: l, h, 0, _ => by
    rw [Rl.rowsRight] at h
    simp only [Bool.and_eq_true] at h
    exact ⟨h.1.1, fun _ => h.1.2⟩
  | r :: r' :: l, h, k + 1, hk => by
    rw [Rl.rowsRight] at h
    simp only [Bool.and_eq_true] at h
    have := rowsRight_at (r' :: l) h.2 k (by simpa using hk)
    simpa using this
theorem rowsRight_ok {l : List Rl.Row} (h : Rl.rowsRight l = true) (hl : l.length ≤ 1099511627776) : RowsOk l := by
  refine ⟨hl, fun r hr => ?_⟩
  obtain ⟨k, hk, rfl⟩ := List.mem_iff_getElem.1 hr
  have := (rowsRight_at l h k hk).1
  simp [Rl.Row.fits, keyOk] at this
  unfold maxLen; omega

theorem fits_true (k v : ByteArray) (w : World) (hk : k.size ≤ maxLen) (hv : v.size ≤ maxLen) (hf : Rl.Row.fits ⟨k, v⟩ = true) :
    Calls Tryz.prog 88 #[.agg #[.string k, .string v]] w fun e w' => e = .returned (.bool true) ∧ ∃ n, w' = (w.alloc (.cells #[.string k, .string v] 50)).drewN n :=
  (fits_any k v w hk hv).mono fun e w' h => by rw [hf] at h; exact h
set_option maxRecDepth 100000 in
set_option maxHeartbeats 2000000 in
theorem rright_any (l : List Rl.Row) (A : Option Addr) (c : Nat) (w : World) (hr : RowsR w w.heap.size A l) (hl : l.length ≤ 1099511627776) (hR : Rl.rowsRight l = true) :
    Calls Tryz.prog 67 #[.slice A l.length c] w fun e w' => e = .returned (.bool true) ∧ Below w.heap.size w w' := by
  have hok := rowsRight_ok hR hl
  have HR := Lib.hid (rowsRight_at l hR)
  clear hR
  go_enter Tryz.func67, Tryz.ntmps67
  go_wp2
  go_loopw [3, 4, 7] (fun _ _ i wr => ∃ (k : Nat), k ≤ l.length ∧ i = .int .i64 k ∧ Below w.heap.size w wr) (fun _ _ i _ => l.length - (intOf i).toNat)
  case atStart => exact ⟨0, Nat.zero_le _, rfl, Below.refl _ _⟩
  case round =>
    obtain ⟨k, hk, rfl, hB⟩ := hrel
    have hs := hB.size
    by_cases h1 : k < l.length
    · obtain ⟨ad, rfl, hb, hc1, hc2⟩ := RowsR.at_ (w := wr) (Reads.below hr hB) h1
      have hc2' : wr.cell? { block := (ad.add (k * 2)).block, off := (ad.add (k * 2)).off + 1 } = some (.string l[k].value) := by
        have := hc2; rw [← add_of_add] at this; exact this
      have hkk := hok.key h1
      have hkv := (hok.2 _ (List.getElem_mem h1)).2
      have hff : Rl.Row.fits ⟨l[k].key, l[k].value⟩ = true := (HR.out k h1).1
      go_wp2_with fail
      by_cases h0 : 0 < k
      · obtain ⟨j, HJ⟩ : ∃ j, Hid (k = j + 1) := ⟨k - 1, Lib.hid (by omega)⟩
        have hj : j < l.length := by have := HJ.out; omega
        obtain ⟨ad', he, _, hd1, hd2⟩ := RowsR.at_ (w := wr) (Reads.below hr hB) hj
        injection he with he; subst he
        have hjj := hok.key hj
        have e1 : IntKind.i64.wrap ((k : Int) - 1) = (j : Int) := by
          have e : ((k : Int) - 1) = (j : Int) := by have := HJ.out; omega
          rw [e]; exact IntWalk.i64_in _ (by omega)
        have e3 : (j : Int) < (l.length : Int) := by omega
        have e4 : (0 : Int) ≤ (j : Int) := by omega
        have e5 : (0 : Int) < (k : Int) := by omega
        have hcmp : decide (0 ≤ cmp l[j].key l[k].key) = false := by
          have e : lt l[j].key l[k].key = true := by
            have := (HR.out j hj).2 (by have := HJ.out; omega)
            have e2 := HJ.out
            subst e2; exact this
          have := Rl.cmp_lt.2 e
          simp; omega
        have hq0 := Nat.ne_of_gt (World.block_lt_of_cell? wr _ hc1)
        have hq1 := Nat.ne_of_gt (World.block_lt_of_cell? wr _ hd1)
        go_region_held3 (fun w' => w'.cell? ⟨wr.heap.size, 0, none⟩ = some (.string l[k].key) ∧ w'.cell? ⟨wr.heap.size, 1, none⟩ = some (.string l[k].value) ∧ w'.cell? (ad.add (j * 2)) = some (.string l[j].key)) (go_keep)
          (first
          | (go_at_call 88
             refine (fits_true _ _ _ hkk hkv hff).mono ?_
             rintro e w1 ⟨rfl, n, rfl⟩
             dsimp only)
          | (go_at_call 72
             refine (compare_any _ _ _ hjj hkk).mono ?_
             rintro e w1 ⟨rfl, n, rfl⟩
             dsimp only))
        go_wp2
        exact ⟨⟨k + 1, by omega, by go_num, (by repeat' (first | (with_reducible exact Below.refl _ _) | (with_reducible assumption) | (with_reducible refine Below.alloc ?_ ?_ _) | (with_reducible refine below_drewN ?_ _) | (with_reducible refine Below.drew ?_) | (with_reducible refine Below.setCell ?_ ?_ _) | go_size))⟩, by simp [intOf]; omega⟩
      · obtain rfl : k = 0 := by omega
        have hq0 := Nat.ne_of_gt (World.block_lt_of_cell? wr _ hc1)
        have hq1 := Nat.ne_of_gt (World.block_lt_of_cell? wr _ hc2')
        have z0 : ∀ w2, Below (wr.heap.size + 1) (wr.alloc (.cells #[.string l[0].key, .string l[0].value] 50)) w2 → w2.cell? ⟨wr.heap.size, 0, none⟩ = some (.string l[0].key) ∧ w2.cell? ⟨wr.heap.size, 1, none⟩ = some (.string l[0].value) := fun w2 hw2 =>
          ⟨kept_cell (w := wr.alloc (.cells #[.string l[0].key, .string l[0].value] 50)) (by simpa using hw2) (by go_simp), kept_cell (w := wr.alloc (.cells #[.string l[0].key, .string l[0].value] 50)) (by simpa using hw2) (by go_simp)⟩
        refine wp_region_new (by kernel_rfl) (by kernel_rfl) ?_
        refine wpQuiet_step (fun K hK => ?_)
        go_simp
        apply Exists.intro
        refine ⟨fun w2 hw2 => ?_, hK _ ?_⟩
        focus (obtain ⟨z1, z2⟩ := z0 w2 hw2; go_simp; exact rfl)
        clear hK K
        refine wpQuiet_step (fun K hK => ?_)
        go_simp
        apply Exists.intro
        refine ⟨fun w2 hw2 => ?_, hK _ ?_⟩
        focus (refine (fits_true _ _ _ hkk hkv hff).mono ?_; rintro e w3 ⟨rfl, n, rfl⟩; have hs2 : wr.heap.size + 1 ≤ w2.heap.size := (by have := hw2.size; simpa using this); exact ⟨rfl, (by repeat' (first | (with_reducible exact Below.refl _ _) | (with_reducible assumption) | (with_reducible refine Below.alloc ?_ ?_ _) | (with_reducible refine below_drewN ?_ _) | (with_reducible refine Below.drew ?_) | (with_reducible refine Below.setCell ?_ ?_ _) | go_size))⟩)
        clear hK K
        repeat (first | go_big_quiet_skip | (go_big_quiet_want; go_big_quiet_op; go_big_quiet_on) | (refine wpQuiet_step (fun K hK => ?_); go_simp; first | (refine hK _ ?_; clear hK K) | (refine ⟨_, fun _ _ => rfl, hK _ ?_⟩; clear hK K)))
        refine wpQuiet_nil ?_
        intro w3 hw3
        have hs3 : wr.heap.size + 1 ≤ w3.heap.size := (by have := hw3.size; simpa using this)
        have hB3 : Below w.heap.size w w3 := below_to (by repeat' (first | (with_reducible exact Below.refl _ _) | (with_reducible assumption) | (with_reducible refine Below.alloc ?_ ?_ _) | (with_reducible refine below_drewN ?_ _) | (with_reducible refine Below.drew ?_) | (with_reducible refine Below.setCell ?_ ?_ _) | go_size)) hw3
        go_wp2
        exact ⟨⟨1, by omega, by go_num, (by repeat' (first | (with_reducible exact Below.refl _ _) | (with_reducible assumption) | (with_reducible refine Below.alloc ?_ ?_ _) | (with_reducible refine below_drewN ?_ _) | (with_reducible refine Below.drew ?_) | (with_reducible refine Below.setCell ?_ ?_ _) | go_size))⟩, by simp [intOf]; omega⟩
    · obtain rfl : k = l.length := by omega
      go_wp2
      go_ret
      exact ⟨rfl, hB⟩

/-- bkey.Between, of keys of which the first is ahead. -/
theorem between_any (a b : ByteArray) (w : World) (ha : a.size ≤ 1099511627776) (hb : b.size ≤ 1099511627776) (hab : lt a b = true) :
    Calls Tryz.prog 184 #[.string a, .string b] w (Ret (.tuple #[.string (Rl.between a b), .nilIface]) w) := by
  have ha' : a.size ≤ maxLen := by unfold maxLen; omega
  have hb' : b.size ≤ maxLen := by unfold maxLen; omega
  have hc := Rl.common_le a b
  have hcl : common a b < b.size := by
    rcases Nat.lt_or_ge (common a b) b.size with h | h
    · exact h
    · have := Rl.lt_of_common a b
      rw [if_pos (by omega), hab] at this; cases this
  have hcmp : decide (0 ≤ cmp a b) = false := by have := Rl.cmp_lt.2 hab; simp; omega
  go_enter Tryz.func184, Tryz.ntmps184
  go_wp2_with fail
  refine (compare_any _ _ _ ha' hb').mono ?_
  rintro e w' ⟨rfl, n, rfl⟩
  go_wp2_with fail
  refine (common_any _ _ _ ha' hb').mono ?_
  rintro e w' ⟨rfl, m, rfl⟩
  obtain ⟨c, HC⟩ : ∃ c, Hid (common a b = c) := ⟨_, Lib.hid rfl⟩
  rw [HC.out] at hcl ⊢
  have e1 : IntKind.i64.wrap ((c : Int) + 1) = (c : Int) + 1 := IntWalk.i64_in _ (by omega)
  have e2 : (c : Int) + 1 ≤ (b.size : Int) := by omega
  have e3 : ((c : Int) + 1).toNat = c + 1 := by omega
  have e4 : (0 : Int) ≤ (c : Int) + 1 := by omega
  go_wp2
  go_ret2
  exact Ret.mk' (by rw [Rl.between, HC.out]; rfl) (n + m) (by simp)
end Go.Proofs.YthidclcliflhkaaGreat
end
section
open Go Go.RowKit
namespace Go.Proofs.YthidclcliflhkaaGreat
open Rl (lt cmp common keyOk inSpan)

theorem Blk.new_at {X : World} {b : Nat} {t : TypeId} {cs : Array Value} (hb : b = X.heap.size) : Blk (X.alloc (.cells cs t)) b t cs := by subst hb; exact Blk.new X t cs
/-- A struct of six cells, stored whole. -/
theorem Blk.set6 {W : World} {b : Nat} {t : TypeId} {c0 c1 c2 c3 c4 c5 : Value} (h : Blk W b t #[c0, c1, c2, c3, c4, c5]) (v0 v1 v2 v3 v4 v5 : Value) :
    Blk ((((((W.setCell ⟨b, 0, none⟩ v0).setCell ⟨b, 1, none⟩ v1).setCell ⟨b, 2, none⟩ v2).setCell ⟨b, 3, none⟩ v3).setCell ⟨b, 4, none⟩ v4).setCell ⟨b, 5, none⟩ v5) b t #[v0, v1, v2, v3, v4, v5] :=
  (((((h.set_ 0 v0).set_ 1 v1).set_ 2 v2).set_ 3 v3).set_ 4 v4).set_ 5 v5
theorem lhas_any (v : Rl.LeafView) (rv : Value) (key : ByteArray) (w : World) (hv : LeafOk v) (hk : key.size ≤ maxLen) :
    Calls Tryz.prog 70 #[.agg (leafVal v rv), .string key] w fun e w' => e = .returned (.bool (v.has key)) ∧ ∃ n, w' = (w.alloc (.cells (leafVal v rv) 96)).drewN n := by
  have hlo := hv.low
  have hhi := hv.high
  unfold leafVal
  go_enter Tryz.func70, Tryz.ntmps70
  go_wp2_with fail
  refine (in_any _ _ _ _ _ hlo hhi hk).mono ?_
  rintro e w' ⟨rfl, n, rfl⟩
  go_wp2
  go_ret
  exact ⟨rfl, n, rfl⟩
theorem lhas_at (v : Rl.LeafView) (rv : Value) (key : ByteArray) (cs : Array Value) (w : World) (hv : v.low.size ≤ maxLen ∧ v.high.size ≤ maxLen) (hk : key.size ≤ maxLen) (hh : Rl.LeafView.has ⟨v.low, v.high, v.unb, v.right, [], false⟩ key = true) (hcs : cs = leafVal v rv) :
    Calls Tryz.prog 70 #[.agg cs, .string key] w fun e w' => e = .returned (.bool true) ∧ ∃ n, w' = (w.alloc (.cells cs 96)).drewN n := by
  subst hcs
  obtain ⟨hlo, hhi⟩ := hv
  have hh' : inSpan v.low v.high v.unb key = true := hh
  unfold leafVal
  go_enter Tryz.func70, Tryz.ntmps70
  go_wp2_with fail
  refine (in_any _ _ _ _ _ hlo hhi hk).mono ?_
  rintro e w' ⟨rfl, n, rfl⟩
  rw [hh']
  go_wp2
  go_ret
  exact ⟨rfl, n, rfl⟩
theorem span_any (v : Rl.LeafView) (rv : Value) (w : World) :
    Calls Tryz.prog 54 #[.agg (leafVal v rv)] w (RetB (.agg #[.string v.low, .string v.high, .bool v.unb]) w) := by
  unfold leafVal
  go_enter Tryz.func54, Tryz.ntmps54
  go_wp2
  refine bodyPost_ret (v := .agg #[.string v.low, .string v.high, .bool v.unb]) ?_ rfl ⟨rfl, ?_⟩
  · simp [results, Tryz.results54, go_sem]
  · exact (by repeat' (first | (with_reducible exact Below.refl _ _) | (with_reducible assumption) | (with_reducible refine Below.alloc ?_ ?_ _) | (with_reducible refine below_drewN ?_ _) | (with_reducible refine Below.drew ?_) | (with_reducible refine Below.setCell ?_ ?_ _) | go_size))
theorem filter_all {α : Type} (p : α → Bool) (l : List α) (h : l.all p = true) : l.filter p = l := by
  rw [List.filter_eq_self]; intro a ha; exact List.all_eq_true.1 h a ha
theorem size_toList (a : ByteArray) : a.toList.length = a.size := by rw [toList_eq]; simp
set_option maxHeartbeats 1000000 in
theorem sound_any (l : List Rl.Row) (A : Option Addr) (c : Nat) (low high : ByteArray) (unb : Bool) (w : World) (hr : RowsR w w.heap.size A l) (hl : l.length ≤ 1099511627776) (hlo : low.size ≤ maxLen) (hhi : high.size ≤ maxLen)
    (hs : Rl.leafSound l low high unb = true) :
    Calls Tryz.prog 53 #[.slice A l.length c, .agg #[.string low, .string high, .bool unb]] w (RetB (.bool true) w) := by
  simp only [Rl.leafSound, Bool.and_eq_true, Bool.not_eq_true'] at hs
  obtain ⟨⟨h1, h2⟩, h3⟩ := hs
  have hok := rowsRight_ok h2 hl
  have HF : Hid ((Way l false).filter (fun x => inSpan low high unb x.key) = l) := Lib.hid (filter_all _ _ h3)
  have H2 := Lib.hid h2
  clear h2 h3
  have hh : unb = true → high = .empty := by
    intro h
    rw [h] at h1
    simp at h1
    apply Rl.bs_ext
    have : high.data.toList.length = 0 := by simpa using h1
    rw [List.eq_nil_of_length_eq_zero this]; rfl
  cases unb with
  | true =>
    obtain rfl := hh rfl
    clear h1 hh
    go_enter Tryz.func53, Tryz.ntmps53
    go_wp2_with fail
    refine (rright_any l A c _ (hr.below (by repeat' (first | (with_reducible exact Below.refl _ _) | (with_reducible assumption) | (with_reducible refine Below.alloc ?_ ?_ _) | (with_reducible refine below_drewN ?_ _) | (with_reducible refine Below.drew ?_) | (with_reducible refine Below.setCell ?_ ?_ _) | go_size))) hl H2.out).mono ?_
    rintro e w1 ⟨rfl, hb1⟩
    have q0 := kept_cell (p := ⟨w.heap.size, 0, none⟩) (v := .string low) hb1 (by (try simp only [alloc_drewN]); (try simp only [alloc_drew]); go_simp)
    have q1 := kept_cell (p := ⟨w.heap.size, 1, none⟩) (v := .string .empty) hb1 (by (try simp only [alloc_drewN]); (try simp only [alloc_drew]); go_simp)
    have q2 := kept_cell (p := ⟨w.heap.size, 2, none⟩) (v := .bool true) hb1 (by (try simp only [alloc_drewN]); (try simp only [alloc_drew]); go_simp)
    have hb2 : Below w.heap.size w w1 := below_to (by repeat' (first | (with_reducible exact Below.refl _ _) | (with_reducible assumption) | (with_reducible refine Below.alloc ?_ ?_ _) | (with_reducible refine below_drewN ?_ _) | (with_reducible refine Below.drew ?_) | (with_reducible refine Below.setCell ?_ ?_ _) | go_size)) hb1
    clear hb1
    go_wp2_with fail
    refine (take_any l A c low _ true false _ (hr.below hb2) hok hlo hhi).mono ?_
    rintro e w2 ⟨r, rfl, hr2⟩
    rw [HF.out] at hr2
    have hb3 : Below w.heap.size w w2 := below_to hb2 hr2.below
    obtain ⟨A2, c2, rfl, _, _⟩ := hr2
    go_wp2
    go_ret
    exact ⟨rfl, hb3⟩
  | false =>
    clear h1 hh
    go_enter Tryz.func53, Tryz.ntmps53
    go_wp2_with fail
    refine (rright_any l A c _ (hr.below (by repeat' (first | (with_reducible exact Below.refl _ _) | (with_reducible assumption) | (with_reducible refine Below.alloc ?_ ?_ _) | (with_reducible refine below_drewN ?_ _) | (with_reducible refine Below.drew ?_) | (with_reducible refine Below.setCell ?_ ?_ _) | go_size))) hl H2.out).mono ?_
    rintro e w1 ⟨rfl, hb1⟩
    have q0 := kept_cell (p := ⟨w.heap.size, 0, none⟩) (v := .string low) hb1 (by (try simp only [alloc_drewN]); (try simp only [alloc_drew]); go_simp)
    have q1 := kept_cell (p := ⟨w.heap.size, 1, none⟩) (v := .string high) hb1 (by (try simp only [alloc_drewN]); (try simp only [alloc_drew]); go_simp)
    have q2 := kept_cell (p := ⟨w.heap.size, 2, none⟩) (v := .bool false) hb1 (by (try simp only [alloc_drewN]); (try simp only [alloc_drew]); go_simp)
    have hb2 : Below w.heap.size w w1 := below_to (by repeat' (first | (with_reducible exact Below.refl _ _) | (with_reducible assumption) | (with_reducible refine Below.alloc ?_ ?_ _) | (with_reducible refine below_drewN ?_ _) | (with_reducible refine Below.drew ?_) | (with_reducible refine Below.setCell ?_ ?_ _) | go_size)) hb1
    clear hb1
    go_wp2_with fail
    refine (take_any l A c low high false false _ (hr.below hb2) hok hlo hhi).mono ?_
    rintro e w2 ⟨r, rfl, hr2⟩
    rw [HF.out] at hr2
    have hb3 : Below w.heap.size w w2 := below_to hb2 hr2.below
    obtain ⟨A2, c2, rfl, _, _⟩ := hr2
    go_wp2
    go_ret
    exact ⟨rfl, hb3⟩
set_option maxRecDepth 100000 in
set_option maxHeartbeats 2000000 in
theorem up_put (v : Rl.LeafView) (rv : Value) (base : Nat) (lo hi key val hk2 : ByteArray) (ub : Bool) (rt pg hp hq ns ng : Int) (rr er : Value) (w : World) (hv : LeafOk v) (hl1 : v.rows.length < 1099511627776) (ho : OwnV w base rv v.rows) (hbase : base ≤ w.heap.size) (hkey : key.size ≤ maxLen) (hval : val.size ≤ maxLen)
    (hf : Rl.Row.fits ⟨key, val⟩ = true) (hg : v.gone = false) (hh : v.has key = true) :
    Calls Tryz.prog 55 #[.agg (leafVal v rv), .agg #[.int .i64 2, .string lo, .string hi, .bool ub, .int .i64 rt, rr, er, .string key, .string val, .int .i64 pg, .int .i64 hp, .int .i64 hq, .string hk2, .int .i64 ns, .int .i64 ng]] w
      (UpPost { v with rows := Rl.rowsPut v.rows ⟨key, val⟩ } base w) := by
  obtain ⟨A, c, rfl, hc, hown⟩ := ho
  have hR : RowsR w w.heap.size A v.rows := OwnV.reads hown
  have HO := Lib.hid hown
  clear hown
  have hrok := hv.rows
  have hlo := hv.low
  have hhi := hv.high
  unfold leafVal
  rw [hg]
  go_enter Tryz.func55, Tryz.ntmps55
  go_wp2_with fail
  refine (put_any v.rows key val A c _ (hR.below (by repeat' (first | (with_reducible exact Below.refl _ _) | (with_reducible assumption) | (with_reducible refine Below.alloc ?_ ?_ _) | (with_reducible refine below_drewN ?_ _) | (with_reducible refine Below.drew ?_) | (with_reducible refine Below.setCell ?_ ?_ _) | go_size))) hrok hc hkey hval hf hl1).mono ?_
  rintro e w1 ⟨r1, rfl, hr1⟩
  obtain ⟨hc1, hf1⟩ := bcell hr1.below
  have hs1 := hr1.below.size
  have hz0 : w.heap.size < w1.heap.size := by simp at hs1; omega
  have hz1 : w.heap.size + 1 < w1.heap.size := by simp at hs1; omega
  have hz2 : w.heap.size + 1 + 1 < w1.heap.size := by simp at hs1; omega
  clear hs1
  have hB0 : Hid (Blk w1 (w.heap.size + 1 + 1) 96 #[.string .empty, .string .empty, .bool false, .int .i64 0, .slice none 0 0, .bool false]) := Lib.hid (Blk.below (Blk.new_at (by simp)) hr1.below (by simp))
  have HR := Lib.hid hr1
  clear hr1
  obtain ⟨A1, c1, rfl, _, _⟩ := HR.out
  go_wp2_with fail
  have q4 : w1.cell? ⟨w.heap.size, 4, none⟩ = some (.slice A v.rows.length c) := by go_simp
  have q5 := World.cell?_setCell_same w1 ⟨w.heap.size, 4, none⟩ (.slice A1 (Rl.rowsPut v.rows ⟨key, val⟩).length c1) q4
  go_region_held3 (fun w' => w'.cell? ⟨w.heap.size, 0, none⟩ = some (.string v.low) ∧ w'.cell? ⟨w.heap.size, 1, none⟩ = some (.string v.high) ∧ w'.cell? ⟨w.heap.size, 2, none⟩ = some (.bool v.unb) ∧
      w'.cell? ⟨w.heap.size, 3, none⟩ = some (.int .i64 v.right) ∧ w'.cell? ⟨w.heap.size, 4, none⟩ = some (.slice A1 (Rl.rowsPut v.rows ⟨key, val⟩).length c1) ∧ w'.cell? ⟨w.heap.size, 5, none⟩ = some (.bool false) ∧
      w'.cell? ⟨w.heap.size + 1, 7, none⟩ = some (.string key)) (go_simp)
    (first
    | (go_at_call 70
       refine (lhas_at { v with rows := Rl.rowsPut v.rows ⟨key, val⟩, gone := false } _ _ _ _ ⟨hlo, hhi⟩ hkey hh rfl).mono ?_
       rintro e w2 ⟨rfl, n, rfl⟩
       dsimp only))
  go_wp2
  have hset := (((hB0.out.far (p := ⟨w.heap.size, 4, none⟩) (by show w.heap.size + 1 + 1 ≠ w.heap.size; omega) (.slice A1 (Rl.rowsPut v.rows ⟨key, val⟩).length c1)).alloc (.cells (leafVal { v with rows := Rl.rowsPut v.rows ⟨key, val⟩, gone := false } (.slice A1 (Rl.rowsPut v.rows ⟨key, val⟩).length c1)) 96)).drewN (1 + n)).set6 (.string v.low) (.string v.high) (.bool v.unb) (.int .i64 v.right) (.slice A1 (Rl.rowsPut v.rows ⟨key, val⟩).length c1) (.bool false)
  have hcc := fun i => Blk.cell hset i
  refine bodyPost_ret (v := .tuple #[.agg #[.string v.low, .string v.high, .bool v.unb, .int .i64 v.right, .slice A1 (Rl.rowsPut v.rows ⟨key, val⟩).length c1, .bool false], .bool true]) ?_ rfl ?_
  · simp [results, Tryz.results55, go_sem, hcc]
  · refine ⟨.slice A1 (Rl.rowsPut v.rows ⟨key, val⟩).length c1, by simp only [leafVal, hg], ?_, ?_⟩
    · obtain ⟨A2, c2, e2, ho, _⟩ := HR.out
      injection e2 with e3 _ e5
      subst e3; subst e5
      obtain ⟨_, _, e6, hle⟩ := own_form ho
      injection e6 with _ _ e7
      subst e7
      refine ⟨A1, c1, rfl, hle, ?_⟩
      have h1 := ownsRow_set ho (p := ⟨w.heap.size, 4, none⟩) (by simp; omega) (.slice A1 (Rl.rowsPut v.rows ⟨key, val⟩).length c1)
      have h2 := ownsRow_keep h1 (below_drewN ((Below.refl _ _).alloc (Nat.le_refl _) (.cells (leafVal { v with rows := Rl.rowsPut v.rows ⟨key, val⟩, gone := false } (.slice A1 (Rl.rowsPut v.rows ⟨key, val⟩).length c1)) 96)) (1 + n))
      exact ownsRow_base (ownsRow_set (ownsRow_set (ownsRow_set (ownsRow_set (ownsRow_set (ownsRow_set h2 (p := ⟨w.heap.size + 1 + 1, 0, none⟩) (by simp) _) (p := ⟨w.heap.size + 1 + 1, 1, none⟩) (by simp) _)
        (p := ⟨w.heap.size + 1 + 1, 2, none⟩) (by simp) _) (p := ⟨w.heap.size + 1 + 1, 3, none⟩) (by simp) _) (p := ⟨w.heap.size + 1 + 1, 4, none⟩) (by simp) _) (p := ⟨w.heap.size + 1 + 1, 5, none⟩) (by simp) _) (by simp; omega)
    · have hb0 : Below w.heap.size w w1 := below_to (by repeat' (first | (with_reducible exact Below.refl _ _) | (with_reducible assumption) | (with_reducible refine Below.alloc ?_ ?_ _) | (with_reducible refine below_drewN ?_ _) | (with_reducible refine Below.drew ?_) | (with_reducible refine Below.setCell ?_ ?_ _) | go_size)) HR.out.below
      have hs0 := hb0.size
      exact (by repeat' (first | (with_reducible exact Below.refl _ _) | (with_reducible assumption) | (with_reducible refine Below.alloc ?_ ?_ _) | (with_reducible refine below_drewN ?_ _) | (with_reducible refine Below.drew ?_) | (with_reducible refine Below.setCell ?_ ?_ _) | go_size))
end Go.Proofs.YthidclcliflhkaaGreat
end
section
open Go Go.RowKit
namespace Go.Proofs.YthidclcliflhkaaGreat
open Rl (lt cmp common keyOk inSpan)

theorem wp_name {P : Program} {c : Code} {Q : Exit → Act → World → Prop} {a : Act} {X : World} (h : ∀ V, Hid (X = V) → c.wp P Q a V) : c.wp P Q a X := h X (Lib.hid rfl)

set_option maxRecDepth 100000 in
set_option maxHeartbeats 2000000 in
theorem up_remove (v : Rl.LeafView) (rv : Value) (base : Nat) (lo hi key val hk2 : ByteArray) (ub : Bool) (rt pg hp hq ns ng : Int) (rr er : Value) (w : World) (hv : LeafOk v) (ho : OwnV w base rv v.rows) (hbase : base ≤ w.heap.size)
    (hg : v.gone = false) :
    Calls Tryz.prog 55 #[.agg (leafVal v rv), .agg #[.int .i64 5, .string lo, .string hi, .bool ub, .int .i64 rt, rr, er, .string key, .string val, .int .i64 pg, .int .i64 hp, .int .i64 hq, .string hk2, .int .i64 ns, .int .i64 ng]] w
      (UpPost { v with gone := true } base w) := by
  obtain ⟨A, c, rfl, hc, hown⟩ := ho
  have HO := Lib.hid hown
  clear hown
  unfold leafVal
  rw [hg]
  go_enter Tryz.func55, Tryz.ntmps55
  go_wp2_with fail
  refine bodyPost_ret (v := .tuple #[.agg #[.string v.low, .string v.high, .bool v.unb, .int .i64 v.right, .slice A v.rows.length c, .bool true], .bool true]) ?_ rfl ?_
  · have hcc := fun i => Blk.cell (Blk.new_at (X := (w.alloc (.cells #[.string v.low, .string v.high, .bool v.unb, .int .i64 v.right, .slice A v.rows.length c, .bool true] 96)).alloc (.cells #[.int .i64 5, .string lo, .string hi, .bool ub, .int .i64 rt, rr, er, .string key, .string val, .int .i64 pg, .int .i64 hp, .int .i64 hq, .string hk2, .int .i64 ns, .int .i64 ng] 83))
      (b := w.heap.size + 1 + 1) (t := 96) (cs := #[.string v.low, .string v.high, .bool v.unb, .int .i64 v.right, .slice A v.rows.length c, .bool true]) (by simp)) i
    simp [results, Tryz.results55, go_sem, hcc]
  · refine ⟨.slice A v.rows.length c, by simp only [leafVal], ?_, ?_⟩
    · refine ⟨A, c, rfl, hc, ?_⟩
      exact ownsRow_keep HO.out ((((Below.refl _ _).alloc (Nat.le_refl _) _).alloc (by simp) _).alloc (by simp; omega) _)
    · exact (by repeat' (first | (with_reducible exact Below.refl _ _) | (with_reducible assumption) | (with_reducible refine Below.alloc ?_ ?_ _) | (with_reducible refine below_drewN ?_ _) | (with_reducible refine Below.drew ?_) | (with_reducible refine Below.setCell ?_ ?_ _) | go_size))
end Go.Proofs.YthidclcliflhkaaGreat
end
