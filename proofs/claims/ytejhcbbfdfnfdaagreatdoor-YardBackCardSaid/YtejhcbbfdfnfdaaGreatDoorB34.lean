/- YardBack's plain law: the record of a fact decodes to the fact, the fact of a record encodes to the record. No program. -/
import Derived.Test.YtejhcbbfdfnfdaaGreatDoorB33
import Derived.Test.YtejhcbbfdfnfdaaGreatDoorB28
import Derived.Test.YtejhcbbfdfnfdaaGreatDoorB24
/- What the laws share: one more fact is done. -/
namespace Go.Proofs.YtejhcbbfdfnfdaaGreatDoor.Yard
open Go.RowKit Go.Proofs.YtejhcbbfdfnfdaaGreatDoor.Base Go.Proofs.YtejhcbbfdfnfdaaGreatDoor.Mp
open Yp (It Yd Fact Bx)
theorem small_short {l : List Fact} {n : Nat} (h : smallL l n = true) : shortNames l ∧ l.length ≤ n := by
  unfold smallL at h
  rw [Bool.and_eq_true] at h
  refine ⟨fun f hf s hs => ?_, by simpa using h.1⟩
  have h1 := List.all_eq_true.1 h.2 f hf
  unfold smallF at h1
  rw [Bool.and_eq_true] at h1
  have := List.all_eq_true.1 h1.2 s hs
  simp at this
  omega
theorem yd_bound (l : List Fact) (k : Nat) (hl : l.length ≤ 1000) : (Yp.steps Yp.yNew (l.take k)).items.length < 4000 ∧ (Yp.steps Yp.yNew (l.take k)).facts.length < 4096 := by
  have h1 := Yp.items_le (l.take k) Yp.yNew
  have h2 := Yp.facts_le (l.take k) Yp.yNew
  have h3 : (l.take k).length ≤ l.length := List.length_take_le' _ _
  have h4 : Yp.yNew.items.length = 0 := rfl
  have h5 : Yp.yNew.facts.length = 0 := rfl
  omega
theorem do_step {w wr : World} {X : Nat → Prop} {v : Value} {l : List Fact} (hv : FLs w X v l) (hl : l.length ≤ 1000) (hsz : shortNames l) {k : Nat} (hlt : k < l.length) {Y M : Nat} (hy : YOwn w.heap.size wr Y M (Yp.steps Yp.yNew (l.take k))) (hb : Below w.heap.size w wr) :
    ∃ (b o c : Nat) (nv vv : Value), v = .slice (some ⟨b, o, none⟩) l.length c ∧ wr.cell? ⟨b, o + k * 3, none⟩ = some (.string l[k].kind) ∧ wr.cell? ⟨b, o + k * 3 + 1, none⟩ = some nv ∧ wr.cell? ⟨b, o + k * 3 + 2, none⟩ = some vv ∧
      Calls Tryz.prog 14 #[.pointer (some ⟨Y, 0, none⟩), .agg #[.string l[k].kind, nv, vv]] wr fun e w' => e = .returned (.int .i64 (Yp.check (Yp.steps Yp.yNew (l.take k)) l[k])) ∧ YOwn w.heap.size w' Y M (Yp.steps Yp.yNew (l.take (k + 1))) ∧ Below w.heap.size w w' := by
  obtain ⟨A, c, rfl, _, hcell⟩ := hv
  obtain ⟨b, o, rfl, hbl, _, hx⟩ := hcell (by omega)
  obtain ⟨nv, vv, d0, d1, d2, hnn, hvv⟩ := hx k _ (List.getElem?_eq_getElem hlt)
  have hnn := hnn.mono (X' := fun i => i < w.heap.size) fun i hi _ => hi
  have hvv := hvv.mono (X' := fun i => i < w.heap.size) fun i hi _ => hi
  refine ⟨b, o, c, nv, vv, rfl, (hb.cell (p := ⟨b, _, none⟩) hbl).trans d0, (hb.cell (p := ⟨b, _, none⟩) hbl).trans d1, (hb.cell (p := ⟨b, _, none⟩) hbl).trans d2, ?_⟩
  have hbd := yd_bound l k hl
  refine (do_own hy (Yp.inv_steps _ Yp.inv_new) hbd.1 hbd.2 hb.size (fun i => i < w.heap.size) (fun i hi => ⟨by have := hy.hM; omega, by have := hy.hY; omega⟩) l[k] nv vv (hnn.below hb) (hvv.below hb) (hsz _ (List.getElem_mem hlt))).mono ?_
  rintro e w' ⟨rfl, hy', hb'⟩
  exact ⟨rfl, by rw [List.take_succ_eq_append_getElem hlt, Yp.steps_snoc]; exact hy', hb.trans hb'⟩
end Go.Proofs.YtejhcbbfdfnfdaaGreatDoor.Yard

/- YardBack's plain law: the record of a fact decodes to the fact, the fact of a record encodes to the record. No program. -/
namespace Go.Proofs.YtejhcbbfdfnfdaaGreatDoor.Yp
open Go
def BA (l : List UInt8) : ByteArray := ⟨l.toArray⟩
theorem indexByte_at : ∀ (x : List UInt8) (c : UInt8) (r : List UInt8), c ∉ x → Lib.indexByte (x ++ c :: r) c = x.length
  | [], c, r, _ => by simp [Lib.indexByte]
  | a :: x, c, r, h => by
    have h1 : (a == c) = false := by
      rw [beq_eq_false_iff_ne]
      intro e; exact h (by rw [e]; exact List.mem_cons_self)
    have ih := indexByte_at x c r fun hm => h (List.mem_cons_of_mem _ hm)
    have h2 : ((x.length : Int) == -1) = false := by rw [beq_eq_false_iff_ne]; omega
    rw [List.cons_append, Lib.indexByte, h1, ih, h2]
    simp
theorem join_cons2 (x y : List UInt8) (r : List (List UInt8)) : Lib.join (x :: y :: r) [32] = x ++ 32 :: Lib.join (y :: r) [32] := by
  simp [Lib.join, List.intercalate]
theorem extract_left (x r : List UInt8) : (BA (x ++ 32 :: r)).extract 0 (x.length + 0) = BA x := by
  apply ByteArray.ext
  simp [BA]
theorem extract_right (x r : List UInt8) : (BA (x ++ 32 :: r)).extract (x.length + sp.size) (BA (x ++ 32 :: r)).size = BA r := by
  have hs : sp.size = 1 := rfl
  have hz : (BA (x ++ 32 :: r)).size = x.length + 1 + r.length := by
    show (x ++ 32 :: r).toArray.size = _
    simp; omega
  rw [hs, hz]
  apply ByteArray.ext
  rw [ByteArray.data_extract]
  apply Array.ext'
  simp [BA]
theorem index_sp (x r : List UInt8) (h : (32 : UInt8) ∉ x) : Lib.indexB (BA (x ++ 32 :: r)) sp = x.length := by
  show Lib.index (x ++ 32 :: r) [32] = _
  rw [Lib.index_one]
  exact indexByte_at x 32 r h
theorem countB_none (x : List UInt8) (h : (32 : UInt8) ∉ x) : Lib.countB (BA x) sp = 0 := by
  show Lib.count x [32] = 0
  rw [Lib.count_one]
  exact List.count_eq_zero.2 h
theorem pieces_join : ∀ (xs : List (List UInt8)), xs ≠ [] → (∀ x ∈ xs, (32 : UInt8) ∉ x) → pieces (BA (Lib.join xs [32])) = xs.map BA
  | [], h, _ => absurd rfl h
  | [x], _, hx => by
    rw [Lib.join_one]
    unfold pieces
    rw [countB_none x (hx x List.mem_cons_self), Lib.splitB_zero]
    rfl
  | x :: y :: r, _, hx => by
    have ih := pieces_join (y :: r) (by simp) fun z hz => hx z (List.mem_cons_of_mem _ hz)
    have hi := index_sp x (Lib.join (y :: r) [32]) (hx x List.mem_cons_self)
    rw [join_cons2]
    unfold pieces at ih ⊢
    rw [Lib.countB_hit _ _ _ (by decide) hi, extract_right, Nat.add_comm 1, Lib.splitB_hit _ _ _ _ _ hi, extract_left, extract_right, ih]
    rfl
theorem parseM_append (M : Nat) : ∀ (l : List UInt8) (acc : Nat) (u : Nat) (c : UInt8), Lib.parseUintM M acc l = .ok u → Lib.parseUintM M acc (l ++ [c]) = Lib.parseUintM M u [c]
  | [], acc, u, c, h => by
    unfold Lib.parseUintM at h
    injection h with h
    rw [h]; rfl
  | a :: l, acc, u, c, h => by
    rw [List.cons_append]
    rw [Lib.parseUintM] at h ⊢
    split at h
    · rename_i h1
      rw [if_pos h1]
      split at h
      · cases h
      · rename_i h2
        rw [if_neg h2]
        split at h
        · cases h
        · rename_i h3
          rw [if_neg h3]
          exact parseM_append M l _ u c h
    · cases h
theorem digit_nat {d : Nat} (h : d < 10) : (UInt8.ofNat (48 + d)).toNat = 48 + d := by
  rw [UInt8.toNat_ofNat']
  omega
theorem parseM_digit {acc d : Nat} (h : d < 10) (hm : acc * 10 + d ≤ 18446744073709551615) : Lib.parseUintM 18446744073709551615 acc [UInt8.ofNat (48 + d)] = .ok (acc * 10 + d) := by
  rw [Lib.parseUintM, digit_nat h, if_pos (by omega), if_neg (by omega), if_neg (by omega)]
  rw [show 48 + d - 48 = d by omega]
  rfl
theorem parse_dec : ∀ (u : Nat), u ≤ 18446744073709551615 → Lib.parseUintM 18446744073709551615 0 (Lib.decDigits u) = .ok u := by
  intro u
  induction u using Nat.strongRecOn with
  | ind u ih =>
    intro hu
    rw [Lib.decDigits]
    split
    · rename_i h
      rw [parseM_digit h (by omega)]
      simp
    · rename_i h
      rw [parseM_append _ _ _ (u / 10) _ (ih (u / 10) (by omega) (by omega)), parseM_digit (Nat.mod_lt _ (by decide)) (by omega)]
      congr 1
      omega
theorem dec_first (u : Nat) : ∃ c l, Lib.decDigits u = c :: l ∧ 48 ≤ c.toNat ∧ c.toNat ≤ 57 := by
  induction u using Nat.strongRecOn with
  | ind u ih =>
    rw [Lib.decDigits]
    split
    · rename_i h
      exact ⟨_, _, rfl, by rw [digit_nat h]; omega, by rw [digit_nat h]; omega⟩
    · rename_i h
      obtain ⟨c, l, e, h1, h2⟩ := ih (u / 10) (by omega)
      exact ⟨c, l ++ [UInt8.ofNat (48 + u % 10)], by rw [e]; rfl, h1, h2⟩
theorem dec_nosp (u : Nat) : (32 : UInt8) ∉ Lib.decDigits u := by
  induction u using Nat.strongRecOn with
  | ind u ih =>
    have hd : ∀ d, d < 10 → (32 : UInt8) ≠ UInt8.ofNat (48 + d) := by
      intro d hd e
      have := congrArg UInt8.toNat e
      rw [digit_nat hd] at this
      have h32 : (32 : UInt8).toNat = 32 := rfl
      omega
    rw [Lib.decDigits]
    split
    · rename_i h
      intro hm
      exact hd u h (List.mem_singleton.1 hm)
    · rename_i h
      intro hm
      rcases List.mem_append.1 hm with hm | hm
      · exact ih (u / 10) (by omega) hm
      · exact hd (u % 10) (Nat.mod_lt _ (by decide)) (List.mem_singleton.1 hm)
theorem itoa_nosp (n : Int) : (32 : UInt8) ∉ Lib.itoa n := by
  unfold Lib.itoa
  split
  · intro hm
    rcases List.mem_cons.1 hm with hm | hm
    · exact absurd hm (by decide)
    · exact dec_nosp _ hm
  · exact dec_nosp _
theorem num_itoa {n : Int} (h : I64 n) : numOf (itoaB n) = some n := by
  unfold I64 at h
  have hp : Lib.parseIntB 64 (Lib.itoa n) = .ok n := by
    unfold Lib.itoa
    split
    · rename_i hn
      obtain ⟨c, l, e, _, _⟩ := dec_first n.natAbs
      have hpu : Lib.parseUintB 64 (Lib.decDigits n.natAbs) = .ok n.natAbs := by
        unfold Lib.parseUintB
        rw [if_neg (by rw [e]; simp)]
        exact parse_dec _ (by omega)
      unfold Lib.parseIntB
      have h45 : (45 : UInt8).toNat = 45 := rfl
      simp only [h45]
      rw [if_pos (Or.inr trivial), hpu]
      simp only [not_true_eq_false, false_and, true_and, if_true, if_false]
      rw [if_neg (by omega)]
      congr 1
      omega
    · rename_i hn
      obtain ⟨c, l, e, h1, h2⟩ := dec_first n.toNat
      have hpu : Lib.parseUintB 64 (Lib.decDigits n.toNat) = .ok n.toNat := by
        unfold Lib.parseUintB
        rw [if_neg (by rw [e]; simp)]
        exact parse_dec _ (by omega)
      rw [e] at hpu ⊢
      unfold Lib.parseIntB
      dsimp only
      rw [if_neg (by omega), hpu]
      dsimp only
      rw [if_neg (by omega), if_neg (by omega), if_neg (by omega)]
      congr 1
      omega
  unfold numOf
  have e : (itoaB n).data.toList = Lib.itoa n := by simp [itoaB]
  rw [e, hp]
theorem num_name {s : ByteArray} (h : isName s = true) : numOf s = none := by
  unfold isName at h
  split at h
  · cases h
  · rename_i c l hl
    simp only [Bool.and_eq_true, decide_eq_true_eq] at h
    have hlow := h.1.2
    unfold isLow at hlow
    simp only [Bool.and_eq_true, decide_eq_true_eq] at hlow
    unfold numOf
    have hp : Lib.parseIntB 64 s.data.toList = .syntax := by
      rw [hl]
      unfold Lib.parseIntB
      dsimp only
      rw [if_neg (by omega)]
      have : Lib.parseUintB 64 (c :: l) = .syntax := by
        unfold Lib.parseUintB
        rw [if_neg (by simp), Lib.parseUintM, if_neg (by omega)]
      rw [this]
    rw [hp]
theorem name_nosp {s : ByteArray} (h : isName s = true) : (32 : UInt8) ∉ s.data.toList := by
  have h32 : (32 : UInt8).toNat = 32 := rfl
  unfold isName at h
  split at h
  · cases h
  · rename_i c l hl
    rw [hl]
    simp only [Bool.and_eq_true, decide_eq_true_eq, List.all_eq_true] at h
    intro hm
    rcases List.mem_cons.1 hm with hm | hm
    · subst hm
      have := h.1.2
      unfold isLow at this
      simp [h32] at this
    · have := h.2 _ hm
      unfold isIn isLow at this
      simp [h32] at this
theorem ba_data (s : ByteArray) : BA s.data.toList = s := by simp [BA]
theorem enc_ok {f : Fact} (h : (encE f).2 = 0) : (encE f).1 = encS f ∧ ((f.kind :: f.names).any fun s => !isName s) = false := by
  unfold encE at h ⊢
  split at h
  · exact absurd h (by decide)
  · rename_i h1
    split at h
    · exact absurd h (by decide)
    · rename_i h2
      rw [if_neg h1, if_neg h2]
      exact ⟨rfl, by simpa using h2⟩
theorem filter_parts : ∀ (ns : List ByteArray) (vs : List Int), (∀ s ∈ ns, isName s = true) → (∀ n ∈ vs, I64 n) →
    (ns ++ vs.map itoaB).filter (fun s => (numOf s).isNone) = ns ∧ (ns ++ vs.map itoaB).filterMap numOf = vs := by
  intro ns vs hn hv
  have h1 : ns.filter (fun s => (numOf s).isNone) = ns := List.filter_eq_self.2 fun s hs => by rw [num_name (hn s hs)]; rfl
  have h2 : (vs.map itoaB).filter (fun s => (numOf s).isNone) = [] := List.filter_eq_nil_iff.2 fun s hs => by
    obtain ⟨n, hn, rfl⟩ := List.mem_map.1 hs
    rw [num_itoa (hv n hn)]; simp
  have h3 : ns.filterMap numOf = [] := List.filterMap_eq_nil_iff.2 fun s hs => num_name (hn s hs)
  have h4 : (vs.map itoaB).filterMap numOf = vs := by
    clear h2
    induction vs with
    | nil => rfl
    | cons v vs ih =>
      rw [List.map_cons, List.filterMap_cons, num_itoa (hv v List.mem_cons_self)]
      simp only
      rw [ih fun n hn => hv n (List.mem_cons_of_mem _ hn)]
  rw [List.filter_append, List.filterMap_append, h1, h2, h3, h4]
  simp
theorem raw_enc {f : Fact} (hi : ∀ n ∈ f.vals, I64 n) (hb : ((f.kind :: f.names).any fun s => !isName s) = false) : rawF (pieces (encS f)) = f := by
  have hnm : ∀ s ∈ f.kind :: f.names, isName s = true := fun s hs => by
    have := List.any_eq_false.1 hb s hs
    simpa using this
  have hp : pieces (encS f) = partsOf f := by
    unfold encS
    refine (pieces_join ((partsOf f).map (·.data.toList)) (by simp [partsOf]) ?_).trans ?_
    · intro x hx
      obtain ⟨s, hs, rfl⟩ := List.mem_map.1 hx
      unfold partsOf at hs
      rcases List.mem_append.1 hs with hs | hs
      · exact name_nosp (hnm s hs)
      · obtain ⟨n, _, rfl⟩ := List.mem_map.1 hs
        have e : (itoaB n).data.toList = Lib.itoa n := by simp [itoaB]
        show (32 : UInt8) ∉ (itoaB n).data.toList
        rw [e]
        exact itoa_nosp n
    · rw [List.map_map]
      conv => rhs; rw [← List.map_id (partsOf f)]
      apply List.map_congr_left
      intro s _
      exact ba_data s
  rw [hp]
  obtain ⟨h1, h2⟩ := filter_parts f.names f.vals (fun s hs => hnm s (List.mem_cons_of_mem _ hs)) hi
  unfold rawF partsOf
  rw [List.cons_append, List.tail_cons, List.headD_cons, h1, h2]
/-- The record of a fact decodes to the fact. -/
theorem dec_enc {f : Fact} (hi : ∀ n ∈ f.vals, I64 n) (h : (encE f).2 = 0) : decE (encE f).1 = (f, 0) := by
  obtain ⟨h1, h2⟩ := enc_ok h
  have hr := raw_enc hi h2
  rw [← h1] at hr
  unfold decE
  rw [hr, if_pos ⟨h, rfl⟩]
/-- The fact of a record encodes to the record; a refused one has the zero fact. -/
theorem enc_dec (s : ByteArray) : ((decE s).2 = 0 → encE (decE s).1 = (s, 0)) ∧ ((decE s).2 ≠ 0 → (decE s).1 = zeroF) := by
  unfold decE
  split
  · rename_i h
    exact ⟨fun _ => Prod.ext h.2 h.1, fun hn => absurd rfl hn⟩
  · exact ⟨fun h => absurd h (by decide), fun _ => rfl⟩
end Go.Proofs.YtejhcbbfdfnfdaaGreatDoor.Yp
