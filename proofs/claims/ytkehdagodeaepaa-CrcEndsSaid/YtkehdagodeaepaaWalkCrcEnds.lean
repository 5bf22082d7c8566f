/- The walk of CrcEnds: true, and nothing that was there has changed. -/
import Derived.Test.YtkehdagodeaepaaEnds
namespace Go.Proofs.Ytkehdagodeaepaa
open Go.RowKit
/-- A sum's own bytes, the lowest first. -/
def tail4 (n : Int) : List Int := [IntKind.u8.wrap n, IntKind.u8.wrap (n / 256), IntKind.u8.wrap (n / 65536), IntKind.u8.wrap (n / 16777216)]
theorem tail4_wf (n : Int) : ∀ x ∈ tail4 n, (Lit.int .u8 x).wf = true := by
  intro x hx
  have h1 : IntKind.u8.min = 0 := rfl
  have h2 : IntKind.u8.max = 255 := rfl
  simp only [Lit.wf, Bool.and_eq_true, decide_eq_true_eq]
  simp only [tail4, IntKind.wrap_u8, List.mem_cons, List.not_mem_nil, or_false] at hx
  omega
theorem ends_law {z : List Int} (hz : ∀ x ∈ z, 0 ≤ x ∧ x < 256) : moreI 0 (z ++ tail4 (moreI 0 z)) = moreI 0 [0, 0, 0, 0] := by
  have h : ∀ x ∈ z.map Int.toNat, x < 256 := by
    intro x hx
    simp only [List.mem_map] at hx
    obtain ⟨y, hy, rfl⟩ := hx
    have := hz y hy
    omega
  have e := Crc.more_ends h
  have ht : (tail4 (moreI 0 z)).map Int.toNat = Crc.bytesOf (Crc.more 0 (z.map Int.toNat)) := by
    have hm : moreI 0 z = ((Crc.more 0 (z.map Int.toNat) : Nat) : Int) := rfl
    rw [hm]
    generalize Crc.more 0 (z.map Int.toNat) = m
    simp only [tail4, IntKind.wrap_u8, Crc.bytesOf, List.map_cons, List.map_nil]
    refine List.cons_eq_cons.2 ⟨by omega, List.cons_eq_cons.2 ⟨by omega, List.cons_eq_cons.2 ⟨by omega, List.cons_eq_cons.2 ⟨by omega, rfl⟩⟩⟩⟩
  show ((Crc.more 0 ((z ++ tail4 (moreI 0 z)).map Int.toNat) : Nat) : Int) = ((Crc.more 0 [0, 0, 0, 0] : Nat) : Int)
  rw [List.map_append, ht, e]

theorem reads_of_own' {k : IntKind} {w : World} {base : Nat} {e : TypeId} {a : Option Addr} {n c : Nat} {zs : List Int} (h : w.ownsRow base e 1 (.slice a n c) n (zs.map (Value.int k))) (hw : ∀ n ∈ zs, (Lit.int k n).wf = true) : Reads k w a n c zs := by
  obtain ⟨a', c', hv, hR⟩ := reads_of_own h hw
  injection hv with e1 e2 e3
  subst e1 e3
  exact hR
theorem heap_alloc_at (w : World) (o : Obj) (k : Nat) (h : w.heap.size = k) : (w.alloc o).heap[k]? = some o := by subst h; exact heap_alloc_new w o
theorem lit_reads {w : World} {g : Nat} {n : Int} {fr : Nat × Nat} (h : w.heap[g]? = some (.cells (cellsOf .u8 (tail4 n)) 5 fr)) : Reads .u8 w (some ⟨g, 0, none⟩) 4 4 (tail4 n) :=
  blk_reads h (by simp [tail4]) (tail4_wf n)
theorem zero_reads {w : World} {g : Nat} (h : w.heap[g]? = some (.cells (madeCells #[Value.int .u8 0] 4) 5 (0, 0))) : Reads .u8 w (some ⟨g, 0, none⟩) 4 4 [0, 0, 0, 0] := by
  have h1 : madeCells #[Value.int IntKind.u8 0] 4 = cellsOf .u8 [0, 0, 0, 0] := by
    apply Array.toList_inj.1
    rw [toList_madeCells_one]
    rfl
  rw [h1] at h
  exact blk_reads h (by simp) (by decide)

set_option maxRecDepth 100000 in
set_option maxHeartbeats 2000000 in
theorem walk_CrcEnds (a0 : Option Addr) (len0 cap0 : Nat) (z0 : List Int) (w : World) (w0 : Reads .u8 w a0 len0 cap0 z0) :
    Calls Try.prog 7 #[.slice a0 len0 cap0] w fun e w' => e = .returned (.bool true) ∧ Below w.heap.size w w' := by
  have hs0 := w0.small'
  by_cases hb : len0 > 1000
  · go_enter Try.func7, Try.ntmps7
    go_wp2_with (go_at_call 9; refine (awake_true _).mono ?_; rintro e wA ⟨rfl, hbA⟩)
    go_ret
    exact ⟨rfl, hbA⟩
  · have hb' : (len0 : Int) ≤ 1000 := by omega
    obtain ⟨i0, hi, hz0, hz1, hz2⟩ := info_parts byte_info
    have hmr := moreI_range (s := 0) (by omega) (by omega) (bytes_range w0.wf)
    have hlaw := ends_law (bytes_range w0.wf)
    obtain ⟨n, hn⟩ : ∃ n, n = moreI 0 z0 := ⟨_, rfl⟩
    rw [← hn] at hmr hlaw
    have HL := Lib.hid hlaw
    have HN := Lib.hid hn
    have fr : ∀ W', Below w.heap.size w W' → Reads .u8 W' a0 len0 cap0 z0 := fun W' h => w0.below h
    have FR := Lib.hid fr
    have hm0 : 0 ≤ n := hmr.1
    have hmk : ∀ W : World, (Instr.makeSlice 23 (.int .i64 4) (.int .i64 4)).run Try.prog W = .ok (.slice (some ⟨W.heap.size, 0, none⟩) 4 4) (W.alloc (.cells (madeCells #[.int .u8 0] 4) 5)) := fun W => run_make_row' (P := Try.prog) 23 5 (.int .u8 0) 1 Try.underlying23 byte_info rfl .i64 .i64 4 (by omega) (by omega) W
    clear hlaw hn hmr fr w0
    go_enter Try.func7, Try.ntmps7
    go_wp2_with (first
      | (go_at_call 9; refine (awake_true _).mono ?_; rintro e wA ⟨rfl, hbA⟩)
      | (go_at_call 12; refine (sum_any a0 len0 cap0 z0 _ (FR.out _ hbA)).mono ?_; rintro e wB ⟨rfl, hbB⟩; rw [← HN.out]))
    have hbAB := bnext hbA hbB
    have HW : Hid (∀ W', Below wB.heap.size wB W' → Below w.heap.size w W') := fun W' h => bnext hbAB h
    have hS : Below wB.heap.size wB wB := Below.refl _ _
    clear hbA hbB hbAB
    have hwz : ∀ x ∈ z0 ++ tail4 n, (Lit.int .u8 x).wf = true := fun x hx => (List.mem_append.1 hx).elim ((FR.out w (brefl w)).wf x) (tail4_wf n x)
    have HWZ := Lib.hid hwz
    have HB0 : Hid (wB.heap.size ≤ wB.heap.size) := Nat.le_refl _
    clear hwz
    go_region_held3 (fun W : World => Below wB.heap.size wB W)
      (first | assumption | exact hS.drew | exact (bnew hS _).drew | exact (bnew (bnew hS _) _).drew | exact (bnew (bnew (bnew hS _) _) _).drew | exact bnew (by assumption) _ | exact bgrown (by assumption) hg1 (by intro k hk; injection hk; omega) | exact bgrown (by assumption) hg2 (by intro k hk; injection hk; omega) | exact bnext (by assumption) hb30 | exact bnext (by assumption) hb32)
      (first
        | (refine step_append_sep (by rfl) (.tmp 14) (.tmp 15) 23 rfl _ 5 i0 (.int .u8 0) 1 Try.underlying23 hi hz0 hz1 hz2 rfl _ 0 0 [] rfl (own_lit (by repeat (first | exact heap_alloc_new _ _ | exact heap_alloc_at _ _ _ (by first | rfl | (simp; done) | fail) | rw [hb30.block _ (by first | omega | (simp; omega) | (simp; done) | fail)] | rw [hg2.block _ (by first | omega | (simp; omega) | (simp; done) | fail) (by intro h; injection h; omega)] | rw [hg1.block _ (by first | omega | (simp; omega) | (simp; done) | fail) (by intro h; injection h; omega)] | rw [heap_drew] | rw [Below.heap_alloc _ _ _ (by first | omega | (simp; omega) | (simp; done) | fail)] | fail))) .u8 a0 len0 cap0 z0 rfl (FR.out _ (HW.out _ (by assumption))) (by unfold maxLen; omega) (by omega) (by first | omega | (simp; omega) | (simp; done) | fail) _ rfl ?_; intro g1 c1 w16 ho1 hg1 hd1 hlt1; simp only [Nat.zero_add, List.nil_append] at ho1 ⊢; have hq1 := (ho1.lt g1 rfl).1; have hs16 := hg1.size; (try simp at hd1); (try simp at hs16))
        | (refine step_append_sep (by rfl) (.tmp 16) (.tmp 28) 23 rfl _ 5 i0 (.int .u8 0) 1 Try.underlying23 hi hz0 hz1 hz2 rfl g1 len0 c1 _ rfl (by first | exact ho1 | exact ho1.alloc _ | exact (ho1.alloc _).alloc _) .u8 _ 4 4 (tail4 n) rfl (lit_reads (by repeat (first | exact heap_alloc_new _ _ | exact heap_alloc_at _ _ _ (by first | rfl | (simp; done) | fail) | rw [hb30.block _ (by first | omega | (simp; omega) | (simp; done) | fail)] | rw [hg2.block _ (by first | omega | (simp; omega) | (simp; done) | fail) (by intro h; injection h; omega)] | rw [hg1.block _ (by first | omega | (simp; omega) | (simp; done) | fail) (by intro h; injection h; omega)] | rw [heap_drew] | rw [Below.heap_alloc _ _ _ (by first | omega | (simp; omega) | (simp; done) | fail)] | fail))) (by unfold maxLen; omega) (by omega) (by first | omega | (simp; omega) | (simp; done) | fail) _ rfl ?_; intro g2 c2 w29 ho2 hg2 hd2 hlt2; have hs29 := hg2.size; (try simp at hs29); have hR2 : Reads .u8 w29 (some ⟨g2, 0, none⟩) (len0 + 4) c2 (z0 ++ tail4 n) := reads_of_own' (by simpa using ho2) HWZ.out)
        | (go_at_call 12; with_reducible refine (sum_any (some ⟨g2, 0, none⟩) (len0 + 4) c2 (z0 ++ tail4 n) _ (by first | exact hR2 | exact hR2.alloc _)).mono ?_; rintro e w30 ⟨rfl, hb30⟩; have hs30 := hb30.size; (try simp at hs30); rw [HL.out])
        | (go_at_call 12; refine (sum_any (some ⟨_, 0, none⟩) 4 4 [0, 0, 0, 0] _ (zero_reads (by repeat (first | exact heap_alloc_new _ _ | exact heap_alloc_at _ _ _ (by first | rfl | (simp; done) | fail) | rw [hb30.block _ (by first | omega | (simp; omega) | (simp; done) | fail)] | rw [hg2.block _ (by first | omega | (simp; omega) | (simp; done) | fail) (by intro h; injection h; omega)] | rw [hg1.block _ (by first | omega | (simp; omega) | (simp; done) | fail) (by intro h; injection h; omega)] | rw [heap_drew] | rw [Below.heap_alloc _ _ _ (by first | omega | (simp; omega) | (simp; done) | fail)] | fail)))).mono ?_; rintro e w32 ⟨rfl, hb32⟩))
    all_goals
      go_wp2_with fail
      go_ret
      exact ⟨rfl, HW.out _ (by assumption)⟩
end Go.Proofs.Ytkehdagodeaepaa
