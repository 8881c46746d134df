/- Sums of volumes over the items met so far. No program. -/
import Derived.Test.YtejhcbbfdfnfdaaGreatDoorR25
import Derived.Test.YtejhcbbfdfnfdaaGreatDoorR5
/- Decode: the fact of a record. -/
namespace Go.Proofs.YtejhcbbfdfnfdaaGreatDoor.Yard
open Go.RowKit Go.Proofs.YtejhcbbfdfnfdaaGreatDoor.Base Go.Proofs.YtejhcbbfdfnfdaaGreatDoor.Mp
open Yp (It Yd Fact Bx)
theorem rd_none (w : World) (X : Nat → Prop) : Rd w X (.slice none 0 0) [] := ⟨none, 0, rfl, Nat.le_refl _, fun h => absurd h (by simp)⟩
theorem rd_setRow {w : World} {X Y : Nat → Prop} {v : Value} {l : List Value} {g : Nat} {cs : Array Value} (h : Rd w X v l) (hn : ∀ b, X b → b ≠ g) (hxy : ∀ b, X b → Y b) : Rd (w.setRow g cs) Y v l := by
  obtain ⟨A, c, rfl, hc, hcell⟩ := h
  refine ⟨A, c, rfl, hc, fun h0 => ?_⟩
  obtain ⟨b, o, rfl, hb, hx, hu⟩ := hcell h0
  exact ⟨b, o, rfl, by simpa using hb, hxy b hx, fun j u hj => (cell_setRow_other w g cs ⟨b, o + j, none⟩ (hn b hx)).trans (hu j u hj)⟩
theorem rd_ones {w : World} {X Y : Nat → Prop} {nv vv : Value} {l m : List Value} (h1 : Rd w X nv l) (h2 : Rd w Y vv m) (s : ByteArray) : (#[.string s, nv, vv] : Array Value).all (·.oneCell') = true := by
  obtain ⟨A, c, rfl, _⟩ := h1
  obtain ⟨A', c', rfl, _⟩ := h2
  kernel_rfl
set_option maxRecDepth 100000 in
set_option maxHeartbeats 8000000 in
theorem dec_any {w : World} (hE : Env w) (s : ByteArray) (hs : s.size ≤ 1000000) :
    Calls Tryz.prog 23 #[.string s] w fun e w' => ∃ nv vv, e = .returned (.tuple #[.agg #[.string (Yp.decE s).1.kind, nv, vv], .int .i64 (Yp.decE s).2]) ∧ Rd w' (fun b => w.heap.size ≤ b) nv (strV (Yp.decE s).1.names) ∧ Rd w' (fun b => w.heap.size ≤ b) vv (intV (Yp.decE s).1.vals) ∧ Below w.heap.size w w' := by
  have hb1 := al_below w (.cells #[.string ⟨#[]⟩, .slice none 0 0, .slice none 0 0] 39)
  have hb2 := hb1.trans ((al_below (w.alloc (.cells #[.string ⟨#[]⟩, .slice none 0 0, .slice none 0 0] 39)) (.cells #[.string ⟨#[]⟩, .slice none 0 0, .slice none 0 0] 39)).mono hb1.size)
  obtain ⟨m, hm⟩ := (hE.on hb2).mx
  have hsp := Go.Proofs.Tryz.strings_Split s Yp.sp m _ (by omega) hm (by decide)
  rw [← Yp.pieces_len] at hsp
  have hd : DSt w (Yp.pieces s) 0 (.slice none 0 0) (.slice none 0 0) (((w.alloc (.cells #[.string ⟨#[]⟩, .slice none 0 0, .slice none 0 0] 39)).alloc (.cells #[.string ⟨#[]⟩, .slice none 0 0, .slice none 0 0] 39)).alloc (.cells (strV (Yp.pieces s)).toArray 9)) := by
    refine ⟨?_, ?_, ?_, World.ownsRow_nil _ _ _ _, World.ownsRow_nil _ _ _ _, (fun g h => by cases h), ?_, (by simp)⟩
    · exact row_after (al_below _ _) (row_after (al_below _ _) (new_block w _))
    · exact row_after (al_below _ _) (new_block2 w _ _)
    · have h3 := new_block2 (w.alloc (.cells #[.string ⟨#[]⟩, .slice none 0 0, .slice none 0 0] 39)) (.cells #[.string ⟨#[]⟩, .slice none 0 0, .slice none 0 0] 39) (.cells (strV (Yp.pieces s)).toArray 9)
      simpa using h3
    · exact hb2.trans ((al_below _ _).mono hb2.size)
  have HPS : Hid (∀ x ∈ Yp.pieces s, x.size ≤ 1000000) := Lib.hid (fun x hx => Nat.le_trans (Yp.pieces_size s x hx) hs)
  have HPL : Hid ((Yp.pieces s).length ≤ 1000001) := Lib.hid (Nat.le_trans (Yp.pieces_le s) (by omega))
  have HDEC : Hid (Yp.decE s = if (Yp.encE (Yp.rawF (Yp.pieces s))).2 = 0 ∧ (Yp.encE (Yp.rawF (Yp.pieces s))).1 = s then (Yp.rawF (Yp.pieces s), 0) else (Yp.zeroF, 2)) := Lib.hid rfl
  have hp0 : 0 < (Yp.pieces s).length := by rw [Yp.pieces_len]; omega
  have hW : (List.map Value.string (Lib.splitB Yp.sp 0 (Lib.countB s Yp.sp) s)) = strV (Yp.pieces s) := rfl
  rw [hW] at hsp
  have hsz : ((w.alloc (.cells #[.string ⟨#[]⟩, .slice none 0 0, .slice none 0 0] 39)).alloc (.cells #[.string ⟨#[]⟩, .slice none 0 0, .slice none 0 0] 39)).heap.size = w.heap.size + 2 := by simp
  rw [hsz] at hsp
  have HSP := Lib.hid hsp
  have HD := Lib.hid hd
  have HE := Lib.hid hE
  generalize Yp.pieces s = l at *
  clear hsp hd hE hm hW hsz hb1 hb2
  go_enter Tryz.func23, Tryz.ntmps23
  go_wp2_with fail
  refine HSP.out.mono ?_; rintro e w3 ⟨rfl, hw3⟩
  have HD3 : Hid (DSt w l 0 (.slice none 0 0) (.slice none 0 0) w3) := Lib.hid (by rw [hw3]; exact HD.out)
  clear HSP HD hw3
  go_wp2_with fail
  go_loopw [14] (fun i wr => ∃ (k : Nat) (nv vv : Value), k ≤ l.length ∧ i = .int .i64 k ∧ DSt w l k nv vv wr) (fun i _ => l.length - (intOf i).toNat)
  case atStart => exact ⟨0, _, _, by omega, rfl, HD3.out⟩
  case round =>
    obtain ⟨k, nv, vv, hk, rfl, hdk⟩ := hrel
    have HDK := Lib.hid hdk
    by_cases hlt : k < l.length
    · have e0 : wr.cell? ⟨w.heap.size + 2, k, none⟩ = some (.string l[k]) := by
        rw [(row_cells hdk.ps).1 k]
        simp [strV, hlt]
      have hpa := parse_any (HE.out.on hdk.below) l[k] (by have := HPS.out _ (List.getElem_mem hlt); omega)
      have HPA := Lib.hid hpa
      have f0 := (row_cells hdk.f).1 0
      have f1 := (row_cells hdk.f).1 1
      have f2 := (row_cells hdk.f).1 2
      clear hdk hpa f0 f1 f2
      go_wp2_with fail
      refine HPA.out.mono ?_; rintro e w4 ⟨n, ev, rfl, hnum, hb4⟩
      have HD4 := Lib.hid (HDK.out.on hb4)
      have f0 := (row_cells HD4.out.f).1 0
      have f1 := (row_cells HD4.out.f).1 1
      have f2 := (row_cells HD4.out.f).1 2
      have z0 := (row_cells HD4.out.f).2 0
      have hk6 : k < 1000001 := by have := HPL.out; omega
      clear hb4 HDK HPA
      rcases Nat.eq_zero_or_pos k with rfl | hk0
      · rw [show ((0 : Nat) : Int) = 0 from rfl]
        have HD5 := Lib.hid (HD4.out.kind hlt)
        clear hnum
        go_wp2_with fail
        exact ⟨⟨1, _, _, hlt, by go_num, HD5.out⟩, by simp [intOf]; omega⟩
      · rcases hnum with ⟨hnum, rfl⟩ | ⟨hnum, N, rfl⟩
        · obtain ⟨g, cq, w7, hrun, hf7, hd7⟩ := HD4.out.num hk0 hlt HPL.out hnum
          have HD7 := Lib.hid hd7
          have y2 := (row_cells hf7).1 2
          have z2 := (row_cells hf7).2 2
          obtain ⟨A1, c1, rfl, _⟩ := id (rd_own HD4.out.vs)
          rw [show (intV (Yp.rawF (l.take k)).vals).length = (Yp.rawF (l.take k)).vals.length by simp [intV]] at *
          clear hd7 hf7
          go_wp2_with (at_builtin; refine wpList_append_run rfl _ _ _ rfl rfl rfl hrun ?_)
          exact ⟨⟨k + 1, _, _, hlt, by go_num, HD7.out⟩, by simp [intOf]; omega⟩
        · obtain ⟨g, cq, w7, hrun, hf7, hd7⟩ := HD4.out.name hk0 hlt HPL.out hnum
          have HD7 := Lib.hid hd7
          have y2 := (row_cells hf7).1 1
          have z2 := (row_cells hf7).2 1
          obtain ⟨A1, c1, rfl, _⟩ := id (rd_own HD4.out.nn)
          rw [show (strV (Yp.rawF (l.take k)).names).length = (Yp.rawF (l.take k)).names.length by simp [strV]] at *
          clear hd7 hf7
          go_wp2_with (at_builtin; refine wpList_append_run rfl _ _ _ rfl rfl rfl hrun ?_)
          exact ⟨⟨k + 1, _, _, hlt, by go_num, HD7.out⟩, by simp [intOf]; omega⟩
    · obtain rfl : k = l.length := by omega
      have f0 := (row_cells hdk.f).1 0
      have f1 := (row_cells hdk.f).1 1
      have f2 := (row_cells hdk.f).1 2
      have o0 := (row_cells hdk.out).1 0
      have hF : l.take l.length = l := List.take_length
      have hnn := rd_own hdk.nn
      have hvs := rd_own hdk.vs
      have hen := enc_any (Yp.rawF l) nv vv (hF ▸ hnn) (X := fun b => w.heap.size + 3 ≤ b) (hF ▸ hvs) (fun x hx => by
        rcases Yp.rawF_mem l x hx with h | rfl
        · have := HPS.out x h; omega
        · decide) (Yp.rawF_i64 l) (HE.out.on hdk.below).tab
      rw [hF] at f0
      have HDK := Lib.hid hdk
      clear hdk o0
      go_wp2_with fail
      refine hen.mono ?_; rintro e w6 ⟨rfl, hb6⟩
      have HD6 := Lib.hid (HDK.out.on hb6)
      have HNN := Lib.hid (hnn.below hb6)
      have HVS := Lib.hid (hvs.below hb6)
      have f0 := (row_cells HD6.out.f).1 0
      have f1 := (row_cells HD6.out.f).1 1
      have f2 := (row_cells HD6.out.f).1 2
      rw [hF] at f0
      have hzero := HD6.out.out
      have hone : (#[.string (Yp.rawF l).kind, nv, vv] : Array Value).all (·.oneCell') = true := rd_ones HNN.out HVS.out _
      have HSB : Hid (∀ cs, Below w.heap.size w (w6.setRow w.heap.size cs)) := Lib.hid (fun cs => below_setRow HD6.out.below (Nat.le_refl _) cs)
      have HSO : Hid (∀ cs j, j ≠ w.heap.size → (w6.setRow w.heap.size cs).heap[j]? = w6.heap[j]?) := Lib.hid (fun cs j h => setRow_other _ _ _ _ h)
      clear hb6 hen hnn hvs HDK
      have hcases : Yp.encE (Yp.rawF l) = (Yp.es, 7) ∨ Yp.encE (Yp.rawF l) = (Yp.es, 4) ∨ Yp.encE (Yp.rawF l) = (Yp.encS (Yp.rawF l), 0) := by
        unfold Yp.encE
        split
        · exact .inl rfl
        · split
          · exact .inr (.inl rfl)
          · exact .inr (.inr rfl)
      rcases hcases with he | he | he
      · rw [he] at HDEC ⊢
        rw [if_neg (by simp)] at HDEC
        have q0 := cell_setRow_same w6 w.heap.size 0 _ #[.string ⟨#[]⟩, .slice none 0 0, .slice none 0 0] _ _ hzero
        have q1 := cell_setRow_same w6 w.heap.size 1 _ #[.string ⟨#[]⟩, .slice none 0 0, .slice none 0 0] _ _ hzero
        have q2 := cell_setRow_same w6 w.heap.size 2 _ #[.string ⟨#[]⟩, .slice none 0 0, .slice none 0 0] _ _ hzero
        go_wp2_with (refine wpList_store_row rfl 39 (.tmp 2) (.tmp 57) rfl w.heap.size #[.string ⟨#[]⟩, .slice none 0 0, .slice none 0 0] rfl rfl 39 _ hzero ?_ ?_ ?_ ?_; (kernel_rfl); (kernel_rfl); (kernel_rfl))
        refine bodyPost_ret (v := .tuple #[.agg #[.string ⟨#[]⟩, .slice none 0 0, .slice none 0 0], .int .i64 2]) (by simp [results, Tryz.results23, go_sem, *]) rfl ⟨.slice none 0 0, .slice none 0 0, ?_, ?_, ?_, HSB.out _⟩
        · rw [HDEC.out]; rfl
        · rw [HDEC.out]; exact rd_none _ _
        · rw [HDEC.out]; exact rd_none _ _
      · rw [he] at HDEC ⊢
        rw [if_neg (by simp)] at HDEC
        have q0 := cell_setRow_same w6 w.heap.size 0 _ #[.string ⟨#[]⟩, .slice none 0 0, .slice none 0 0] _ _ hzero
        have q1 := cell_setRow_same w6 w.heap.size 1 _ #[.string ⟨#[]⟩, .slice none 0 0, .slice none 0 0] _ _ hzero
        have q2 := cell_setRow_same w6 w.heap.size 2 _ #[.string ⟨#[]⟩, .slice none 0 0, .slice none 0 0] _ _ hzero
        go_wp2_with (refine wpList_store_row rfl 39 (.tmp 2) (.tmp 57) rfl w.heap.size #[.string ⟨#[]⟩, .slice none 0 0, .slice none 0 0] rfl rfl 39 _ hzero ?_ ?_ ?_ ?_; (kernel_rfl); (kernel_rfl); (kernel_rfl))
        refine bodyPost_ret (v := .tuple #[.agg #[.string ⟨#[]⟩, .slice none 0 0, .slice none 0 0], .int .i64 2]) (by simp [results, Tryz.results23, go_sem, *]) rfl ⟨.slice none 0 0, .slice none 0 0, ?_, ?_, ?_, HSB.out _⟩
        · rw [HDEC.out]; rfl
        · rw [HDEC.out]; exact rd_none _ _
        · rw [HDEC.out]; exact rd_none _ _
      · rw [he] at HDEC ⊢
        by_cases hq : Yp.encS (Yp.rawF l) = s
        · have he2 : ((Yp.encS (Yp.rawF l)).toList == s.toList) = true := by rw [tl_beq]; simpa using hq
          rw [if_pos ⟨rfl, hq⟩] at HDEC
          have q0 := cell_setRow_same w6 w.heap.size 0 _ #[.string (Yp.rawF l).kind, nv, vv] _ _ hzero
          have q1 := cell_setRow_same w6 w.heap.size 1 _ #[.string (Yp.rawF l).kind, nv, vv] _ _ hzero
          have q2 := cell_setRow_same w6 w.heap.size 2 _ #[.string (Yp.rawF l).kind, nv, vv] _ _ hzero
          go_wp2_with (refine wpList_store_row rfl 39 (.tmp 2) (.tmp 58) rfl w.heap.size #[.string (Yp.rawF l).kind, nv, vv] rfl rfl 39 _ hzero ?_ ?_ ?_ ?_; (kernel_rfl); (kernel_rfl); (exact hone))
          refine bodyPost_ret (v := .tuple #[.agg #[.string (Yp.rawF l).kind, nv, vv], .int .i64 0]) (by simp [results, Tryz.results23, go_sem, *]) rfl ⟨nv, vv, ?_, ?_, ?_, HSB.out _⟩
          · rw [HDEC.out]
          · rw [HDEC.out]; exact rd_setRow (hF ▸ HNN.out) (fun b hb => by omega) (fun b hb => by omega)
          · rw [HDEC.out]; exact rd_setRow (hF ▸ HVS.out) (fun b hb => by omega) (fun b hb => by omega)
        · have he2 : ((Yp.encS (Yp.rawF l)).toList == s.toList) = false := by rw [tl_beq]; simpa using hq
          rw [if_neg (fun h => hq h.2)] at HDEC
          have q0 := cell_setRow_same w6 w.heap.size 0 _ #[.string ⟨#[]⟩, .slice none 0 0, .slice none 0 0] _ _ hzero
          have q1 := cell_setRow_same w6 w.heap.size 1 _ #[.string ⟨#[]⟩, .slice none 0 0, .slice none 0 0] _ _ hzero
          have q2 := cell_setRow_same w6 w.heap.size 2 _ #[.string ⟨#[]⟩, .slice none 0 0, .slice none 0 0] _ _ hzero
          go_wp2_with (refine wpList_store_row rfl 39 (.tmp 2) (.tmp 57) rfl w.heap.size #[.string ⟨#[]⟩, .slice none 0 0, .slice none 0 0] rfl rfl 39 _ hzero ?_ ?_ ?_ ?_; (kernel_rfl); (kernel_rfl); (kernel_rfl))
          refine bodyPost_ret (v := .tuple #[.agg #[.string ⟨#[]⟩, .slice none 0 0, .slice none 0 0], .int .i64 2]) (by simp [results, Tryz.results23, go_sem, *]) rfl ⟨.slice none 0 0, .slice none 0 0, ?_, ?_, ?_, HSB.out _⟩
          · rw [HDEC.out]; rfl
          · rw [HDEC.out]; exact rd_none _ _
          · rw [HDEC.out]; exact rd_none _ _
end Go.Proofs.YtejhcbbfdfnfdaaGreatDoor.Yard

/- Sums of volumes over the items met so far. No program. -/
namespace Go.Proofs.YtejhcbbfdfnfdaaGreatDoor.Yp
theorem sumL_snoc (l : List Int) (a : Int) : sumL (l ++ [a]) = sumL l + a := by rw [sumL_append, sumL_cons]; simp [sumL]
theorem stVol_snoc (s : Int) (l : List It) (x : It) : stVol s (l ++ [x]) = stVol s l + (if x.st = s then x.bx.vol else 0) := by
  unfold stVol; rw [List.map_append, List.map_cons, List.map_nil, sumL_snoc]
theorem part_le {f : It → Int} {l dn rest : List It} {x : It} (h0 : ∀ z ∈ l, 0 ≤ f z) (hp : (dn ++ x :: rest).Perm l) : 0 ≤ sumL (dn.map f) ∧ 0 ≤ f x ∧ sumL (dn.map f) + f x ≤ sumL (l.map f) := by
  have hm : ∀ z ∈ dn ++ x :: rest, 0 ≤ f z := fun z hz => h0 z (hp.mem_iff.1 hz)
  have h1 : 0 ≤ sumL (dn.map f) := sumL_nonneg fun v hv => by
    obtain ⟨z, hz, rfl⟩ := List.mem_map.1 hv
    exact hm z (List.mem_append_left _ hz)
  have h2 : 0 ≤ f x := hm x (by simp)
  have h3 : 0 ≤ sumL (rest.map f) := sumL_nonneg fun v hv => by
    obtain ⟨z, hz, rfl⟩ := List.mem_map.1 hv
    exact hm z (List.mem_append_right _ (List.mem_cons_of_mem _ hz))
  have h4 := sumL_perm (hp.map f)
  rw [List.map_append, List.map_cons, sumL_append, sumL_cons] at h4
  exact ⟨h1, h2, by omega⟩
theorem sum_le {f g : It → Int} : ∀ {l : List It}, (∀ z ∈ l, f z ≤ g z) → sumL (l.map f) ≤ sumL (l.map g)
  | [], _ => Int.le_refl _
  | a :: l, h => by
    rw [List.map_cons, List.map_cons, sumL_cons, sumL_cons]
    have := h a List.mem_cons_self
    have := sum_le fun z hz => h z (List.mem_cons_of_mem _ hz)
    omega
theorem root_part {y : Yd} (h : Inv y) {dn rest : List It} {x : It} (hp : (dn ++ x :: rest).Perm y.items) : 0 ≤ rootVol dn ∧ (x.par = es → rootVol dn + x.bx.vol ≤ 8000000000000000000) := by
  have h1 := part_le (f := fun x => if x.par = es then x.bx.vol else 0) (fun z hz => by
    show 0 ≤ if z.par = es then z.bx.vol else 0
    split
    · exact vol_nonneg _ (h.ok z hz)
    · exact Int.le_refl 0) hp
  have h2 := rootVol_le h
  unfold rootVol at h2 ⊢
  refine ⟨h1.1, fun hx => ?_⟩
  have h3 := h1.2.2
  simp only [hx, if_true] at h3
  omega
theorem st_part {y : Yd} (h : Inv y) {dn rest : List It} {x : It} (hp : (dn ++ x :: rest).Perm y.items) (s : Int) (hs : s ≠ 2) : 0 ≤ stVol s dn ∧ (x.st = s → stVol s dn + x.bx.vol ≤ 8000000000000000000) := by
  have h1 := part_le (f := fun x => if x.st = s then x.bx.vol else 0) (fun z hz => by
    show 0 ≤ if z.st = s then z.bx.vol else 0
    split
    · exact vol_nonneg _ (h.ok z hz)
    · exact Int.le_refl 0) hp
  have h2 := liveVol_le h
  have h4 : stVol s y.items ≤ liveVol y.items := sum_le fun z hz => by
    have := vol_nonneg _ (h.ok z hz)
    show (if z.st = s then z.bx.vol else 0) ≤ (if z.st = 2 then 0 else z.bx.vol)
    by_cases hz2 : z.st = s
    · rw [if_pos hz2, if_neg (by rw [hz2]; exact hs)]; exact Int.le_refl _
    · rw [if_neg hz2]; split <;> omega
  unfold stVol at h4 ⊢
  refine ⟨h1.1, fun hx => ?_⟩
  have h3 := h1.2.2
  simp only [hx, if_true] at h3
  omega
theorem rootVol_perm {a b : List It} (h : a.Perm b) : rootVol a = rootVol b := sumL_perm (h.map _)
theorem stVol_perm (s : Int) {a b : List It} (h : a.Perm b) : stVol s a = stVol s b := sumL_perm (h.map _)
end Go.Proofs.YtejhcbbfdfnfdaaGreatDoor.Yp
