/-
  DERIVED. THE WALKS over the reference's can, asked and one.
-/
import Derived.Test.YtfkhflknigemgaaGreatWRefs
import Derived.Test.YtfkhflknigemgaaGreatWOur
namespace Go.Proofs.YtfkhflknigemgaaGreat
open Go.RowKit
set_option maxRecDepth 100000

theorem can_ref (kd k : Int) (w : World) : Calls Tryz.prog 37 #[.int .i64 kd, .int .i64 k] w fun e w' => e = .returned (.bool (canW kd k)) ∧ w = w' := by
  go_enter Tryz.func37, Tryz.ntmps37
  go_wp2_with fail
  all_goals
    go_ret
    refine ⟨?_, rfl⟩
    first | (simp [canW]; omega) | (simp [canW, *]; done) | simp_all [canW]

/-- what 'one' answers. -/
theorem one_add (kd v a : Int) (h5 : kd ≠ 5) : cutW kd ((v + cutW kd a) % 18446744073709551616) = cutW kd ((v + a) % 18446744073709551616) := by
  unfold cutW
  by_cases h13 : kd = 1 ∨ kd = 3
  · simp only [if_pos h13]; omega
  · simp only [if_neg h13, if_neg h5]

set_option maxHeartbeats 1000000 in
theorem one_ref (kd v k a b : Int) (w : World) (hc : canW kd k = true) (ha : 0 ≤ a ∧ a < 18446744073709551616) (hb : 0 ≤ b ∧ b < 18446744073709551616) :
    Calls Tryz.prog 26 #[.int .i64 kd, .int .u64 v, .agg #[.int .i64 k, .int .u64 a, .int .u64 b]] w fun e w' => e = .returned (.tuple #[.agg #[.int .u64 (wVal kd v k a), .bool (wOk kd v k a)], .int .u64 (wNew kd v k a b)]) ∧ Below w.heap.size w w' := by
  have Hc := Lib.hid hc
  obtain rfl | rfl | rfl | rfl | rfl | rfl | rfl := can_num k (by simp [canW] at hc; omega)
  all_goals clear hc
  · go_enter Tryz.func26, Tryz.ntmps26
    go_wp2_with fail
    go_region_held3 (fun w' => w'.cell? ⟨w.heap.size, 1, none⟩ = some (.int .u64 a) ∧ w'.cell? ⟨w.heap.size, 2, none⟩ = some (.int .u64 b)) (first | go_keep) (first | (go_at_call 25; refine (cut_any kd _ _ (by assumption)).mono ?_; rintro e w' ⟨rfl, rfl⟩))
    go_wp2_with fail
    refine bodyPost_ret (v := .tuple #[.agg #[.int .u64 v, .bool true], .int .u64 v]) (by simp [results, Tryz.results26, go_sem]) rfl ⟨?_, ((((Below.refl _ w).alloc (Nat.le_refl _) _).alloc (by simp) _).drew)⟩
    rfl
  · go_enter Tryz.func26, Tryz.ntmps26
    go_wp2_with fail
    go_region_held3 (fun w' => w'.cell? ⟨w.heap.size, 1, none⟩ = some (.int .u64 a) ∧ w'.cell? ⟨w.heap.size, 2, none⟩ = some (.int .u64 b)) (first | go_keep) (first | (go_at_call 25; refine (cut_any kd _ _ (by assumption)).mono ?_; rintro e w' ⟨rfl, rfl⟩))
    go_wp2_with fail
    refine bodyPost_ret (v := .tuple #[.agg #[.int .u64 0, .bool true], .int .u64 (cutW kd a)]) (by simp [results, Tryz.results26, go_sem]) rfl ⟨?_, ((((Below.refl _ w).alloc (Nat.le_refl _) _).alloc (by simp) _).drew)⟩
    rfl
  · have h5 : kd ≠ 5 := by have := Hc.out; simp [canW] at this; exact this
    have E := Lib.hid (one_add kd v a h5)
    clear h5
    go_enter Tryz.func26, Tryz.ntmps26
    go_wp2_with fail
    go_region_held3 (fun w' => w'.cell? ⟨w.heap.size, 1, none⟩ = some (.int .u64 a) ∧ w'.cell? ⟨w.heap.size, 2, none⟩ = some (.int .u64 b)) (first | go_keep) (first | (go_at_call 25; refine (cut_any kd _ _ (by assumption)).mono ?_; rintro e w' ⟨rfl, rfl⟩))
    go_wp2_with fail
    rw [wrap_u64]
    refine (cut_any kd _ _ (by omega)).mono ?_
    rintro e w' ⟨rfl, rfl⟩
    go_wp2_with fail
    refine bodyPost_ret (v := .tuple #[.agg #[.int .u64 (cutW kd ((v + cutW kd a) % 18446744073709551616)), .bool true], .int .u64 (cutW kd ((v + cutW kd a) % 18446744073709551616))]) (by simp [results, Tryz.results26, go_sem]) rfl ⟨?_, ((((Below.refl _ w).alloc (Nat.le_refl _) _).alloc (by simp) _).drew)⟩
    rw [E.out]; rfl
  · go_enter Tryz.func26, Tryz.ntmps26
    go_wp2_with fail
    go_region_held3 (fun w' => w'.cell? ⟨w.heap.size, 1, none⟩ = some (.int .u64 a) ∧ w'.cell? ⟨w.heap.size, 2, none⟩ = some (.int .u64 b)) (first | go_keep) (first | (go_at_call 25; refine (cut_any kd _ _ (by assumption)).mono ?_; rintro e w' ⟨rfl, rfl⟩))
    go_wp2_with fail
    refine bodyPost_ret (v := .tuple #[.agg #[.int .u64 v, .bool true], .int .u64 (cutW kd a)]) (by simp [results, Tryz.results26, go_sem]) rfl ⟨?_, ((((Below.refl _ w).alloc (Nat.le_refl _) _).alloc (by simp) _).drew)⟩
    rfl
  · by_cases hx : v = cutW kd a
    · have hx' : (v == cutW kd a) = true := by simpa using hx
      have E := Lib.hid hx
      clear hx
      go_enter Tryz.func26, Tryz.ntmps26
      go_wp2_with fail
      go_region_held3 (fun w' => w'.cell? ⟨w.heap.size, 1, none⟩ = some (.int .u64 a) ∧ w'.cell? ⟨w.heap.size, 2, none⟩ = some (.int .u64 b)) (first | go_keep) (first | (go_at_call 25; refine (cut_any kd _ _ (by assumption)).mono ?_; rintro e w' ⟨rfl, rfl⟩))
      go_wp2_with fail
      refine bodyPost_ret (v := .tuple #[.agg #[.int .u64 0, .bool true], .int .u64 (cutW kd b)]) (by simp [results, Tryz.results26, go_sem]) rfl ⟨?_, ((((Below.refl _ w).alloc (Nat.le_refl _) _).alloc (by simp) _).drew)⟩
      have hx := E.out
      simp [wVal, wOk, wNew, casNew, ← hx]
    · have hx' : (v == cutW kd a) = false := by simpa using hx
      have E := Lib.hid hx
      clear hx
      go_enter Tryz.func26, Tryz.ntmps26
      go_wp2_with fail
      go_region_held3 (fun w' => w'.cell? ⟨w.heap.size, 1, none⟩ = some (.int .u64 a) ∧ w'.cell? ⟨w.heap.size, 2, none⟩ = some (.int .u64 b)) (first | go_keep) (first | (go_at_call 25; refine (cut_any kd _ _ (by assumption)).mono ?_; rintro e w' ⟨rfl, rfl⟩))
      go_wp2_with fail
      refine bodyPost_ret (v := .tuple #[.agg #[.int .u64 0, .bool false], .int .u64 v]) (by simp [results, Tryz.results26, go_sem]) rfl ⟨?_, ((((Below.refl _ w).alloc (Nat.le_refl _) _).alloc (by simp) _).drew)⟩
      have hx := E.out
      simp [wVal, wOk, wNew, casNew, hx]
  · go_enter Tryz.func26, Tryz.ntmps26
    go_wp2_with fail
    go_region_held3 (fun w' => w'.cell? ⟨w.heap.size, 1, none⟩ = some (.int .u64 a) ∧ w'.cell? ⟨w.heap.size, 2, none⟩ = some (.int .u64 b)) (first | go_keep) (first | (go_at_call 25; refine (cut_any kd _ _ (by assumption)).mono ?_; rintro e w' ⟨rfl, rfl⟩))
    go_wp2_with fail
    refine bodyPost_ret (v := .tuple #[.agg #[.int .u64 v, .bool true], .int .u64 (Go.bits .and .u64 v (cutW kd a))]) (by simp [results, Tryz.results26, go_sem]) rfl ⟨?_, ((((Below.refl _ w).alloc (Nat.le_refl _) _).alloc (by simp) _).drew)⟩
    rfl
  · go_enter Tryz.func26, Tryz.ntmps26
    go_wp2_with fail
    go_region_held3 (fun w' => w'.cell? ⟨w.heap.size, 1, none⟩ = some (.int .u64 a) ∧ w'.cell? ⟨w.heap.size, 2, none⟩ = some (.int .u64 b)) (first | go_keep) (first | (go_at_call 25; refine (cut_any kd _ _ (by assumption)).mono ?_; rintro e w' ⟨rfl, rfl⟩))
    go_wp2_with fail
    refine bodyPost_ret (v := .tuple #[.agg #[.int .u64 v, .bool true], .int .u64 (Go.bits .or .u64 v (cutW kd a))]) (by simp [results, Tryz.results26, go_sem]) rfl ⟨?_, ((((Below.refl _ w).alloc (Nat.le_refl _) _).alloc (by simp) _).drew)⟩
    rfl

end Go.Proofs.YtfkhflknigemgaaGreat
