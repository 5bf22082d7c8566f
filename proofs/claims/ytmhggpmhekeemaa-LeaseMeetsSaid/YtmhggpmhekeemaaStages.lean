/- The third thing that a plan needs: its stages. -/
import Derived.Test.YtmhggpmhekeemaaTimes
namespace Go.Proofs.Ytmhggpmhekeemaa
open Go.RowKit

theorem getD_range {l : List Int} {k : Nat} (hk : k < l.length) {P : Int → Prop} (h : ∀ s ∈ l, P s) : P (l.getD k 0) := by
  rw [List.getD, List.getElem?_eq_getElem hk]; exact h _ (List.getElem_mem _)
theorem take_snoc {l : List Int} {k : Nat} (hk : k < l.length) : l.take (k + 1) = l.take k ++ [l.getD k 0] := by
  rw [List.take_succ_eq_append_getElem hk, List.getD, List.getElem?_eq_getElem hk]; rfl
/-- How many nodes have each stage. -/
def cnts (l : List Int) : List Int := [cnt l 0, cnt l 1, cnt l 2, cnt l 3]
theorem cnts_get (l : List Int) {j : Nat} (h : j < 4) : (cnts l).getD j 0 = cnt l j := by
  match j, h with
  | 0, _ => rfl
  | 1, _ => rfl
  | 2, _ => rfl
  | 3, _ => rfl
theorem cnts_step (l : List Int) {j : Nat} (h : j < 4) : (cnts l).set j (cnt l j + 1) = cnts (l ++ [(j : Int)]) := by
  match j, h with
  | 0, _ => simp [cnts, cnt_append, cnt]
  | 1, _ => simp [cnts, cnt_append, cnt]
  | 2, _ => simp [cnts, cnt_append, cnt]
  | 3, _ => simp [cnts, cnt_append, cnt]

set_option maxRecDepth 100000 in
set_option maxHeartbeats 1000000 in
theorem stages_any (C : Cv) (w : World) (h : Good w C) :
    Calls Try.prog 54 #[.agg C.cells] w fun e w' => e = .returned (.bool (stB C)) ∧ Below w.heap.size w w' := by
  have hsn := h.st.small'
  have hnn := h.ne.small'
  have hr0 := h.r0
  have hls := h.st.length
  have hln := h.ne.length
  have HG := Lib.hid h
  clear h
  go_enter Try.func54, Try.ntmps54
  go_wp2_with fail
  have hbox : ((w.alloc (Obj.cells C.cells 24)).alloc (Obj.cells #[Value.int IntKind.i64 0, Value.int IntKind.i64 0, Value.int IntKind.i64 0, Value.int IntKind.i64 0] 89)).heap[w.heap.size]? = some (.cells C.cells 24 (0, 0)) := heap_alloc2_old _ _ _
  have hmany : ((w.alloc (Obj.cells C.cells 24)).alloc (Obj.cells #[Value.int IntKind.i64 0, Value.int IntKind.i64 0, Value.int IntKind.i64 0, Value.int IntKind.i64 0] 89)).heap[w.heap.size + 1]? = some (.cells (cellsOf .i64 (cnts [])) 89 (0, 0)) := heap_alloc2_new _ _ _
  have hbel := bnew (bnew (brefl w) (Obj.cells C.cells 24)) (Obj.cells #[Value.int IntKind.i64 0, Value.int IntKind.i64 0, Value.int IntKind.i64 0, Value.int IntKind.i64 0] 89)
  have HB := Lib.hid hbel
  have HX := Lib.hid hbox
  have HM := Lib.hid hmany
  clear hbox hmany hbel
  generalize ((w.alloc (Obj.cells C.cells 24)).alloc (Obj.cells #[Value.int IntKind.i64 0, Value.int IntKind.i64 0, Value.int IntKind.i64 0, Value.int IntKind.i64 0] 89)) = W at *
  go_loopw [4, 13] (fun m i wr => ∃ k : Nat, k ≤ C.sn ∧ i = .int .i64 k ∧ m = .int .i64 (mostOf (C.st.take k)) ∧ (∀ s ∈ C.st.take k, 0 ≤ s ∧ s < 4) ∧ wr.heap[w.heap.size]? = some (.cells C.cells 24 (0, 0)) ∧ wr.heap[w.heap.size + 1]? = some (.cells (cellsOf .i64 (cnts (C.st.take k))) 89 (0, 0)) ∧ Below w.heap.size w wr) (fun _ i _ => C.sn - (intOf i).toNat)
  case atStart => exact ⟨0, Nat.zero_le _, rfl, rfl, by simp, HX.out, HM.out, HB.out⟩
  case round =>
    obtain ⟨k, hk, rfl, rfl, hall, hbox, hmany, hbel⟩ := hrel
    by_cases hlt : k < C.sn
    · have hkl : k < C.st.length := by omega
      rcases (HG.out.below hbel).st.cells with h0 | ⟨b, off, ha, hc⟩
      · omega
      have hck := hc k hlt
      obtain ⟨s, hs⟩ : ∃ s, s = C.st.getD k 0 := ⟨_, rfl⟩
      rw [← hs] at hck
      by_cases hbad : 0 ≤ s ∧ s < 4
      · obtain ⟨J, rfl⟩ := Int.eq_ofNat_of_zero_le hbad.1
        have hJ : J < 4 := by omega
        have hJ' : (J : Int) < 4 := by omega
        have hcell := blk_cell hmany (j := J) (by simpa [cnts] using hJ)
        rw [cnts_get _ hJ] at hcell
        have hfr := blk_free (j := J) hmany
        have hr := cnt_range (C.st.take k) J
        have hlen : (C.st.take k).length = k := by simp; omega
        have hset : (wr.setCell ⟨w.heap.size + 1, J, none⟩ (.int .i64 (cnt (C.st.take k) J + 1))).heap[w.heap.size + 1]? = some (.cells (cellsOf .i64 (cnts (C.st.take (k + 1)))) 89 (0, 0)) := by
          rw [blk_set hmany J, cnts_step _ hJ, take_snoc hkl, ← hs]
        have hbox2 : (wr.setCell ⟨w.heap.size + 1, J, none⟩ (.int .i64 (cnt (C.st.take k) J + 1))).heap[w.heap.size]? = some (.cells C.cells 24 (0, 0)) := by
          rw [heap_setCell_other _ _ _ _ (by simp)]; exact hbox
        have hmost : mostOf (C.st.take (k + 1)) = max (mostOf (C.st.take k)) (J : Int) := by rw [take_snoc hkl, mostOf_append, hs]
        have hall2 : ∀ x ∈ C.st.take (k + 1), 0 ≤ x ∧ x < 4 := by
          rw [take_snoc hkl, ← hs]
          intro x hx
          rcases List.mem_append.1 hx with hx | hx
          · exact hall x hx
          · simp only [List.mem_cons, List.not_mem_nil, or_false] at hx; subst hx; exact hbad
        obtain ⟨n, hn⟩ : ∃ n, n = cnt (C.st.take k) J := ⟨_, rfl⟩
        rw [← hn] at hcell hset hbox2 hr
        obtain ⟨hr1, hr2⟩ := hr
        have hr3 : n < 9223372036854775807 := by omega
        have H1 := Lib.hid hset
        have H2 := Lib.hid hbox2
        have H3 := Lib.hid hmost
        have H4 := Lib.hid hall2
        have hia : ∀ W : World, (Instr.indexAt 22 (.slice C.sa C.sn C.sc) (.int .i64 k)).run Try.prog W = .ok (.pointer (some ⟨b, off + k, none⟩)) W := fun W => by
          rw [ha]; go_simp
        clear ha
        clear hset hbox2 hmost hall2 hs hn hall hmany hbox hc hlen hr2 hbad
        go_wp2_with fail
        go_roundw
        case rel => exact ⟨k + 1, by omega, by go_num, by rw [H3.out], H4.out, H2.out, H1.out, hbel.setCell (by simp) _⟩
        case measure => simp [intOf]; omega
      · have hfalse := Lib.hid (stB_bad hkl (by rw [← hs]; exact hbad))
        have hia : ∀ W : World, (Instr.indexAt 22 (.slice C.sa C.sn C.sc) (.int .i64 k)).run Try.prog W = .ok (.pointer (some ⟨b, off + k, none⟩)) W := fun W => by
          rw [ha]; go_simp
        clear ha hs hc hmany hbox hall
        go_wp2_with fail
        all_goals
          first
          | (go_ret; exact ⟨ret_bool (by rw [hfalse.out]), hbel⟩)
          | (exfalso; omega)
    · have hkk : k = C.sn := by omega
      subst hkk
      have htk : C.st.take C.sn = C.st := List.take_of_length_le (by omega)
      rw [htk] at hall hmany ⊢
      obtain ⟨m, hm⟩ : ∃ m, m = mostOf C.st := ⟨_, rfl⟩
      have hmr := mostOf_range hall
      rw [← hm] at hmr ⊢
      obtain ⟨hm0, hm4⟩ := hmr
      have f0 : wr.cell? ⟨w.heap.size, 0, none⟩ = some (.int .i64 C.nodes) := by rw [cell_of_row _ _ _ _ _ _ hbox]; rfl
      have f7 : wr.cell? ⟨w.heap.size, 7, none⟩ = some (.slice C.sa C.sn C.sc) := by rw [cell_of_row _ _ _ _ _ _ hbox]; rfl
      have f8 : wr.cell? ⟨w.heap.size, 8, none⟩ = some (.slice C.na C.nn C.nc) := by rw [cell_of_row _ _ _ _ _ _ hbox]; rfl
      have HM2 := Lib.hid hmany
      have HALL := Lib.hid hall
      have HMO := Lib.hid hm
      clear hmany hall htk hbox hm
      by_cases hlen : (C.sn : Int) = C.nodes ∧ (C.nn : Int) = m + 1
      · obtain ⟨hl1, hl2⟩ := hlen
        have e1 : ((C.sn : Int) != C.nodes) = false := by rw [hl1]; simp
        have e2 : ((C.nn : Int) != m + 1) = false := by rw [hl2]; simp
        have HL1 := Lib.hid hl1
        have HL2 := Lib.hid hl2
        have hnn4 : C.nn ≤ 4 := by omega
        clear hl1 hl2
        go_wp2_with fail
        go_loopw [49] (fun i wq => ∃ k : Nat, k ≤ C.nn ∧ i = .int .i64 k ∧ (∀ j, j < k → 0 ≤ C.ne.getD j 0 ∧ C.ne.getD j 0 ≤ cnt C.st j) ∧ wq = wr) (fun i _ => C.nn - (intOf i).toNat)
        case atStart => exact ⟨0, Nat.zero_le _, rfl, by intro j hj; omega, rfl⟩
        case round =>
          obtain ⟨k, hk, rfl, hneed, hwq⟩ := hrel
          subst hwq
          by_cases hlt : k < C.nn
          · rcases (HG.out.below hbel).ne.cells with h0 | ⟨b, off, ha, hc⟩
            · omega
            have hck := hc k hlt
            have hia : ∀ W : World, (Instr.indexAt 22 (.slice C.na C.nn C.nc) (.int .i64 k)).run Try.prog W = .ok (.pointer (some ⟨b, off + k, none⟩)) W := fun W => by
              rw [ha]; go_simp
            have hk4 : k < 4 := by omega
            have hk4' : (k : Int) < 4 := by omega
            have hcell := blk_cell HM2.out (j := k) (by simpa [cnts] using hk4)
            rw [cnts_get _ hk4] at hcell
            by_cases hbad : 0 ≤ C.ne.getD k 0 ∧ C.ne.getD k 0 ≤ cnt C.st k
            · have hneed2 : ∀ j, j < k + 1 → 0 ≤ C.ne.getD j 0 ∧ C.ne.getD j 0 ≤ cnt C.st j := fun j hj => by
                by_cases e : j = k
                · subst e; exact hbad
                · exact hneed j (by omega)
              have HN := Lib.hid hneed2
              obtain ⟨x, hx⟩ : ∃ x, x = C.ne.getD k 0 := ⟨_, rfl⟩
              obtain ⟨y, hy⟩ : ∃ y, y = cnt C.st k := ⟨_, rfl⟩
              rw [← hx] at hck
              rw [← hy] at hcell
              rw [← hx, ← hy] at hbad
              obtain ⟨hb1, hb2⟩ := hbad
              clear hneed hneed2 ha hc hx hy
              go_wp2_with fail
              go_roundw
              case rel => exact ⟨k + 1, by omega, by go_num, HN.out, trivial⟩
              case measure => simp [intOf]; omega
            · have hfalse := Lib.hid (stB_need hlt hbad)
              obtain ⟨x, hx⟩ : ∃ x, x = C.ne.getD k 0 := ⟨_, rfl⟩
              obtain ⟨y, hy⟩ : ∃ y, y = cnt C.st k := ⟨_, rfl⟩
              rw [← hx] at hck
              rw [← hy] at hcell
              rw [← hx, ← hy] at hbad
              clear hneed ha hc hx hy
              go_wp2_with fail
              all_goals
                first
                | (go_ret; exact ⟨ret_bool (by rw [hfalse.out]), hbel⟩)
                | (exfalso; omega)
          · have hkk : k = C.nn := by omega
            subst hkk
            have htrue := Lib.hid (stB_good HALL.out ⟨HL1.out, by rw [HL2.out, HMO.out]⟩ hneed)
            clear hneed
            go_wp2_with fail
            go_ret
            exact ⟨ret_bool (by rw [htrue.out]), hbel⟩
      · have hfalse := Lib.hid (stB_long (by rw [← HMO.out]; exact hlen))
        by_cases hl1 : (C.sn : Int) = C.nodes
        · have e1 : ((C.sn : Int) != C.nodes) = false := by rw [hl1]; simp
          have e2 : ((C.nn : Int) != m + 1) = true := by rw [bne_iff_ne]; exact fun h => hlen ⟨hl1, h⟩
          clear hlen hl1
          go_wp2_with fail
          go_ret
          exact ⟨ret_bool (by rw [hfalse.out]), hbel⟩
        · have e1 : ((C.sn : Int) != C.nodes) = true := by rw [bne_iff_ne]; exact hl1
          clear hlen hl1
          go_wp2_with fail
          go_ret
          exact ⟨ret_bool (by rw [hfalse.out]), hbel⟩
end Go.Proofs.Ytmhggpmhekeemaa
