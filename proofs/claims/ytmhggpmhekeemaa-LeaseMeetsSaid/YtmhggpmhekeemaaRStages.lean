/- The reference's stages. -/
import Derived.Test.YtmhggpmhekeemaaStages
namespace Go.Proofs.Ytmhggpmhekeemaa
open Go.RowKit
theorem indexAt_slice {a : Option Addr} {n c k b off : Nat} (ha : a = some ⟨b, off, none⟩) (hk : k < n) (W : World) : (Instr.indexAt 22 (.slice a n c) (.int .i64 k)).run Try.prog W = .ok (.pointer (some ⟨b, off + k, none⟩)) W := by
  subst ha
  have : (k : Int) < n := by omega
  go_simp

set_option maxRecDepth 100000 in
set_option maxHeartbeats 1000000 in
theorem rstages_any (C : Cv) (w : World) (h : Good w C) :
    Calls Try.prog 70 #[.agg C.cells] w fun e w' => e = .returned (.bool (stB C)) ∧ Below w.heap.size w w' := by
  have hsn := h.st.small'
  have hnn := h.ne.small'
  have hr0 := h.r0
  have hls := h.st.length
  have hln := h.ne.length
  have HBO := Lib.hid (bnew (brefl w) (Obj.cells C.cells 24))
  have HG := Lib.hid h
  have HSC := Lib.hid ((h.below (bnew (brefl w) (Obj.cells C.cells 24))).st.cells)
  have HNC := Lib.hid ((h.below (bnew (brefl w) (Obj.cells C.cells 24))).ne.cells)
  clear h
  by_cases hl1 : (C.sn : Int) = C.nodes
  · have e1 : ((C.sn : Int) != C.nodes) = false := by rw [hl1]; simp
    have HL1 := Lib.hid hl1
    clear hl1
    go_enter Try.func70, Try.ntmps70
    go_wp2_with fail
    generalize hWW : w.alloc (Obj.cells C.cells 24) = W at *
    have f0 : W.cell? ⟨w.heap.size, 0, none⟩ = some (.int .i64 C.nodes) := by rw [← hWW, cell_of_row _ _ _ _ _ _ (heap_alloc_new _ _)]; rfl
    have f7 : W.cell? ⟨w.heap.size, 7, none⟩ = some (.slice C.sa C.sn C.sc) := by rw [← hWW, cell_of_row _ _ _ _ _ _ (heap_alloc_new _ _)]; rfl
    have f8 : W.cell? ⟨w.heap.size, 8, none⟩ = some (.slice C.na C.nn C.nc) := by rw [← hWW, cell_of_row _ _ _ _ _ _ (heap_alloc_new _ _)]; rfl
    clear hWW
    go_loop [3, 4] (fun m i => ∃ k : Nat, k ≤ C.sn ∧ i = .int .i64 k ∧ m = .int .i64 (mostOf (C.st.take k)) ∧ (∀ s ∈ C.st.take k, 0 ≤ s ∧ s < 4)) (fun _ i => C.sn - (intOf i).toNat)
    case atStart => exact ⟨0, Nat.zero_le _, rfl, rfl, by simp⟩
    case round =>
      obtain ⟨k, hk, rfl, rfl, hall⟩ := hrel
      by_cases hlt : k < C.sn
      · have hkl : k < C.st.length := by omega
        rcases HSC.out with h0 | ⟨b, off, ha, hc⟩
        · omega
        have hck := hc k hlt
        have hia := indexAt_slice (c := C.sc) ha hlt
        obtain ⟨s, hs⟩ : ∃ s, s = C.st.getD k 0 := ⟨_, rfl⟩
        rw [← hs] at hck
        by_cases hbad : 0 ≤ s ∧ s < 4
        · have hmost : mostOf (C.st.take (k + 1)) = max (mostOf (C.st.take k)) s := by rw [take_snoc hkl, mostOf_append, hs]
          have hall2 : ∀ x ∈ C.st.take (k + 1), 0 ≤ x ∧ x < 4 := by
            rw [take_snoc hkl, ← hs]
            intro x hx
            rcases List.mem_append.1 hx with hx | hx
            · exact hall x hx
            · simp only [List.mem_cons, List.not_mem_nil, or_false] at hx; subst hx; exact hbad
          have H3 := Lib.hid hmost
          have H4 := Lib.hid hall2
          obtain ⟨hb1, hb2⟩ := hbad
          clear hmost hall2 hs hall ha hc
          go_wp2_with fail
          go_round
          case rel => exact ⟨k + 1, by omega, by go_num, by rw [H3.out], H4.out⟩
          case measure => simp [intOf]; omega
        · have hfalse := Lib.hid (stB_bad hkl (by rw [← hs]; exact hbad))
          clear hs hall ha hc
          go_wp2_with fail
          all_goals
            first
            | (go_ret; exact ⟨ret_bool (by rw [hfalse.out]), HBO.out⟩)
            | (exfalso; omega)
      · have hkk : k = C.sn := by omega
        subst hkk
        have htk : C.st.take C.sn = C.st := List.take_of_length_le (by omega)
        rw [htk] at hall ⊢
        obtain ⟨m, hm⟩ : ∃ m, m = mostOf C.st := ⟨_, rfl⟩
        have hmr := mostOf_range hall
        rw [← hm] at hmr ⊢
        obtain ⟨hm0, hm4⟩ := hmr
        have HALL := Lib.hid hall
        have HMO := Lib.hid hm
        clear hall htk hm
        by_cases hl2 : (C.nn : Int) = m + 1
        · have e2 : ((C.nn : Int) != m + 1) = false := by rw [hl2]; simp
          have HL2 := Lib.hid hl2
          have hnn4 : (C.nn : Int) ≤ m + 1 := by omega
          have hnn5 : m + 1 ≤ (C.nn : Int) := by omega
          clear hl2
          go_wp2_with fail
          go_loop [5] (fun i => ∃ k : Nat, (k : Int) ≤ m + 1 ∧ i = .int .i64 k ∧ (∀ j, j < k → 0 ≤ C.ne.getD j 0 ∧ C.ne.getD j 0 ≤ cnt C.st j)) (fun i => (m + 1).toNat - (intOf i).toNat)
          case atStart => exact ⟨0, by omega, rfl, by intro j hj; omega⟩
          case round =>
            obtain ⟨k, hk, rfl, hneed⟩ := hrel
            by_cases hlt : (k : Int) ≤ m
            · go_wp2_with fail
              go_loop [6, 7] (fun c i => ∃ q : Nat, q ≤ C.sn ∧ i = .int .i64 q ∧ c = .int .i64 (cnt (C.st.take q) k)) (fun _ i => C.sn - (intOf i).toNat)
              case atStart => exact ⟨0, Nat.zero_le _, rfl, rfl⟩
              case round =>
                obtain ⟨q, hq, rfl, rfl⟩ := hrel
                by_cases hlq : q < C.sn
                · have hql : q < C.st.length := by omega
                  rcases HSC.out with h0 | ⟨b, off, ha, hc⟩
                  · omega
                  have hck := hc q hlq
                  have hia := indexAt_slice (c := C.sc) ha hlq
                  obtain ⟨s, hs⟩ : ∃ s, s = C.st.getD q 0 := ⟨_, rfl⟩
                  rw [← hs] at hck
                  have hr := cnt_range (C.st.take q) k
                  have hlen : (C.st.take q).length = q := by simp; omega
                  obtain ⟨n, hn⟩ : ∃ n, n = cnt (C.st.take q) k := ⟨_, rfl⟩
                  have hnext : cnt (C.st.take (q + 1)) k = n + (if s = (k : Int) then 1 else 0) := by
                    rw [take_snoc hql, cnt_append, ← hs, ← hn]; simp [cnt]
                  rw [← hn] at hr ⊢
                  obtain ⟨hr1, hr2⟩ := hr
                  have hr3 : n < 9223372036854775807 := by omega
                  by_cases he : s = (k : Int)
                  · have e3 : (s == (k : Int)) = true := by rw [beq_iff_eq]; exact he
                    have HN := Lib.hid (show cnt (C.st.take (q + 1)) k = n + 1 by rw [hnext, if_pos he])
                    clear hnext he hs hn hlen ha hc hr2 hneed
                    go_wp2_with fail
                    go_round
                    case rel => exact ⟨q + 1, by omega, by go_num, by rw [HN.out]⟩
                    case measure => simp [intOf]; omega
                  · have e3 : (s == (k : Int)) = false := by rw [beq_eq_false_iff_ne]; exact he
                    have HN := Lib.hid (show cnt (C.st.take (q + 1)) k = n by rw [hnext, if_neg he]; omega)
                    clear hnext he hs hn hlen ha hc hr2 hneed
                    go_wp2_with fail
                    go_round
                    case rel => exact ⟨q + 1, by omega, by go_num, by rw [HN.out]⟩
                    case measure => simp [intOf]; omega
                · have hqq : q = C.sn := by omega
                  subst hqq
                  have htk : C.st.take C.sn = C.st := List.take_of_length_le (by omega)
                  rw [htk]
                  have hkn : k < C.nn := by omega
                  rcases HNC.out with h0 | ⟨b, off, ha, hc⟩
                  · omega
                  have hck := hc k hkn
                  have hia := indexAt_slice (c := C.nc) ha hkn
                  obtain ⟨x, hx⟩ : ∃ x, x = C.ne.getD k 0 := ⟨_, rfl⟩
                  obtain ⟨y, hy⟩ : ∃ y, y = cnt C.st k := ⟨_, rfl⟩
                  rw [← hx] at hck
                  rw [← hy]
                  by_cases hbad : 0 ≤ C.ne.getD k 0 ∧ C.ne.getD k 0 ≤ cnt C.st k
                  · have hneed2 : ∀ j, j < k + 1 → 0 ≤ C.ne.getD j 0 ∧ C.ne.getD j 0 ≤ cnt C.st j := fun j hj => by
                      by_cases e : j = k
                      · subst e; exact hbad
                      · exact hneed j (by omega)
                    have HN := Lib.hid hneed2
                    rw [← hx, ← hy] at hbad
                    obtain ⟨hb1, hb2⟩ := hbad
                    clear hneed hneed2 ha hc hx hy htk
                    go_wp2_with fail
                    go_round
                    case rel => exact ⟨k + 1, by omega, by go_num, HN.out⟩
                    case measure => simp [intOf]; omega
                  · have hfalse := Lib.hid (stB_need hkn hbad)
                    rw [← hx, ← hy] at hbad
                    clear hneed ha hc hx hy htk
                    go_wp2_with fail
                    all_goals
                      first
                      | (go_ret; exact ⟨ret_bool (by rw [hfalse.out]), HBO.out⟩)
                      | (exfalso; omega)
            · have htrue := Lib.hid (stB_good HALL.out ⟨HL1.out, by rw [HL2.out, HMO.out]⟩ (fun j hj => hneed j (by omega)))
              clear hneed
              go_wp2_with fail
              go_ret
              exact ⟨ret_bool (by rw [htrue.out]), HBO.out⟩
        · have e2 : ((C.nn : Int) != m + 1) = true := by rw [bne_iff_ne]; exact hl2
          have hfalse := Lib.hid (stB_long (C := C) (fun h => hl2 (by rw [h.2, HMO.out])))
          clear hl2
          go_wp2_with fail
          go_ret
          exact ⟨ret_bool (by rw [hfalse.out]), HBO.out⟩
  · have e1 : ((C.sn : Int) != C.nodes) = true := by rw [bne_iff_ne]; exact hl1
    have hfalse := Lib.hid (stB_long (C := C) (fun h => hl1 h.1))
    clear hl1
    go_enter Try.func70, Try.ntmps70
    go_wp2_with fail
    go_ret
    exact ⟨ret_bool (by rw [hfalse.out]), HBO.out⟩
end Go.Proofs.Ytmhggpmhekeemaa
